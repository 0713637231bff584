/-
  What functions of the program hand back, and plain laws on that. No condition.
-/
import Derived.Test.YtdlcbilgemnomaaGreatSxLibC
import Derived.Test.YtdlcbilgemnomaaGreatSxT30
import Derived.RangeFuncNested
import Derived.RangeFuncBound
import Derived.RangeFuncCalls
import Derived.RangeFuncLeaves
import Derived.RangeFuncBox
import Derived.Maps.AppendAt
import Derived.Shelf.Abstract
import Derived.Shelf.RegionOpen
import Derived.OwnWalkIn
import Derived.TacticsInMore
import Derived.LoopNIn
import Derived.LoopIn
import Derived.Test.YtdlcbilgemnomaaGreatSxLibB
set_option linter.unusedSimpArgs false
set_option linter.unusedVariables false
section
namespace Go.Proofs.M
open Go Go.Sx Go.RowKit Go.Shelf
attribute [local go_sem] Oper.semAt_some
theorem Ada:(Tryz.prog.info? 136).map (fun i=>(i.zero,i.size,i.bytes))=some (some (.pointer none),1,8):=by kernel_rfl
theorem Ky {own:TypeId->Prop} (h133:¬own 133) (h136:¬own 136) {g:Nat} {lb:Array Value} (eg:∀args w,(callFunc g args).run Tryz.prog w=.ok (.enter g args) w) {S:List Nat->Prop} {N:Nat} (hN:N<=1000000) {w:World}
  (hseq:Acw own Tryz.prog g lb (fun x:Nat=>#[pvo x 0]) S N w):
  Calls Tryz.prog 173 #[.slice none 0 0,.func (.func g) #[] lb] w fun e w'=>∃v xs,e=.returned v/\S xs/\w'.ownsRow w.heap.size 136 1 v xs.length (xs.map fun x=>pvo x 0)/\(v=.slice none 0 0↔xs=[])/\Below w.heap.size w w':=by
 refine(callsIn_wide (n:=3)).1 ?_;refine callsIn_of_wp_marks Tryz.func173 rfl trivial ?_ rfl;simp only[Tryz.ntmps173,List.size_toArray,List.length_cons,List.length_nil,Nat.reduceAdd,Nat.reduceSub,Array.replicate_succ,Array.replicate_zero,List.push_toArray,List.append_toArray,List.nil_append,List.cons_append]
 gi_wp2
 have hB:=Boxed.new w 133 (.slice none 0 0);have ht0:Below w.heap.size w (w.alloc (.cells #[.slice none 0 0] 133)):=(Below.refl _ w).alloc (AeU _) _;refine I2 (gf:=g) (lb:=lb) rfl eg hseq ht0 (fun _=>rfl)
  (fun pre W=>(∃v,Boxed W w.heap.size 133 v/\W.ownsRow w.heap.size 136 1 v pre.length (pre.map fun x=>pvo x 0)/\(v=.slice none 0 0↔pre=[]))/\Below w.heap.size w W)
  ?hI ?h0 (fun x=>{tmps:=#[.slice none 0 0,.func (.func g) #[] lb,.pointer (some ⟨w.heap.size,0,none⟩),undef,.slice none 0 0,pvo x 0,.func (.func g) #[] lb,pvo x 0,undef,undef,undef,undef,undef],defers:=[]}) ?assign ?body ?done
 case hI=>
  rintro s W0 W1 ⟨⟨v,hv,hrow,hnil⟩,hbel⟩ ht;have hne:∀b us T fz,W0.heap[b]?=some (Obj.cells us T fz)->¬own T->W1.heap[b]?=some (Obj.cells us T fz):=fun b us T fz hb ho=>ht.block b _ hb fun h=>by
   rcases h.2 with h|⟨_,_,_,e,h⟩
   ·cases h
   ·cases e;exact ho h
  refine⟨⟨v,hne _ _ _ _ hv h133,⟨hrow.1,?_⟩,hnil⟩,hbel.trans (ht.below hbel.size fun b o h=>by have:=h.1;simp at this;omega)⟩;rcases hrow.2 with h|⟨g2,cap2,cur2,e0,hgB,hgb,hr⟩
  ·exact .inl h
  ·exact .inr ⟨g2,cap2,cur2,e0,hgB,hne _ _ _ _ hgb h136,hr⟩
 case h0=>exact⟨⟨_,hB,World.ownsRow_nil ..,by simp⟩,ht0⟩
 case assign=>
  intro l m x W K hK
  gi_wp2
  exact hK
 case body=>
  rintro l m pre x W ⟨⟨v,hv,hrow,hnil⟩,hbel⟩ hlen;have hu:Tryz.prog.underlying 133=some (.slice 136):=Tryz.Tu.slice rfl;obtain⟨i0,hi,hz0,hz1,hz2⟩:=info_parts Ada;have hc:=hv.cell;have hf:=hv.frozen
  gi_wp2_with (first
   |(gi_at_builtin;refine wpListIn_append_own _ rfl _ _ 133 rfl w.heap.size 136 i0 (.pointer none) 1 8 hu hi hz0 hz1 hz2 rfl (by decide) _ _ _ rfl (hrow.alloc _) ⟨W.heap.size,0,none⟩ 1 1 [pvo x 0] rfl rfl (cell_one_new _ _ _) (by simp[Value.oneCell']) (by unfold maxLen at *;omega) (by omega) (by have:=hbel.size;simp;omega) ?_;intro v' w1 hown' hgrow _
     obtain⟨g',cap',rfl⟩:=ownsRow_succ hown';obtain⟨hv1,hv2,hr2,hk2,hb2⟩:=hv.appended (by decide) hrow hbel.size (AeU _) hown' hgrow;have hc1:=hv1.cell;have hf1:=hv1.frozen)
   |gi_in)
  refine⟨?_,⟨_,hv2,by simpa using hr2,by simp⟩,hbel.trans hb2⟩;refine((Gu.alloc _ W _).trans (Gu.grown hgrow fun r o e ho=>?_)).trans (Gu.grown (grownBy_setCell' w1 w.heap.size _) fun r o e ho=>?_)
  ·rcases (hrow.alloc _).2 with⟨e0,_⟩|⟨g2,cap2,cur2,e0,hgB,hgb,_⟩
   ·subst e0;cases e
   ·subst e0;have e2:some g2=some r:=e;cases e2;rw[hgb] at ho;cases ho;exact⟨hgB,fun⟨_,_,_,e3,h4⟩=>by cases e3;exact h136 h4⟩
  ·cases e;rw[show w1.heap[w.heap.size]?=_ from hv1] at ho;cases ho;exact⟨AeU _,fun⟨_,_,_,e3,h4⟩=>by cases e3;exact h133 h4⟩
 case done=>
  rintro D xs W hD hS ⟨⟨v,hv,hrow,hnil⟩,hbel⟩ hK;have hc:=hv.cell
  gi_wp2
  refine⟨by simp,.inl ⟨_,_,rfl,run_takeDeferred hK,?_⟩⟩;refine⟨_,results_tmp rfl _ _ _,v,xs,rfl,hS,ownsRow_putObj hrow _ hK rfl,hnil,?_⟩;exact hbel.trans (belowK_b (w:=w) (AeU _) W D _ _ (by simp at hD;omega) hK rfl rfl)
theorem Qc {own:TypeId->Prop} (h133:¬own 133) (h136:¬own 136) {g:Nat} {lb:Array Value} (eg:∀args w,(callFunc g args).run Tryz.prog w=.ok (.enter g args) w) {S:List Nat->Prop} {N:Nat} (hN:N<=1000000) {w:World}
  (hseq:Acw own Tryz.prog g lb (fun x:Nat=>#[pvo x 0]) S N w):
  Calls Tryz.prog 128 #[.func (.func g) #[] lb] w fun e w'=>∃v,e=.returned v/\∃xs,S xs/\w'.ownsRow w.heap.size 136 1 v xs.length (xs.map fun x=>pvo x 0)/\Below w.heap.size w w':=by
 have hc:Calls Tryz.prog 173 #[.slice none 0 0,.func (.func g) #[] lb] w fun e w'=>∃v,e=.returned v/\∃xs,S xs/\w'.ownsRow w.heap.size 136 1 v xs.length (xs.map fun x=>pvo x 0)/\Below w.heap.size w w':=
  Calls.mono (Ky h133 h136 eg hN hseq) fun e w' ⟨v,xs,h1,h2,h3,_,h5⟩=>⟨v,h1,xs,h2,h3,h5⟩
 refine(callsIn_wide (n:=3)).1 ?_;refine callsIn_of_wp Tryz.func128 rfl trivial ?_ rfl;simp only[Tryz.ntmps128,List.size_toArray,List.length_cons,List.length_nil,Nat.reduceAdd,Nat.reduceSub,Array.replicate_succ,Array.replicate_zero,List.push_toArray,List.append_toArray,List.nil_append,List.cons_append]
 gi_wp2
 refine⟨trivial,callsIn_wide.2 (Calls.mono hc ?_)⟩;rintro e w' ⟨v,rfl,xs,hS,hrow,hbel⟩
 gi_wp2
 exact⟨by simp,_,results_tmp rfl _ _ _,v,rfl,xs,hS,hrow,hbel⟩
def LB (b:Nat):List D:=[.raw (pvo b 0)]
theorem WB {ρ:Nat->RI} {w:World} {Im:Nat->Prop} (xs:List Nat):A3 (BU ρ w Im) (rowOf LB xs).flatten (xs.map fun x=>pvo x 0):=by
 induction xs with
 |nil=>exact .nil
 |cons x xs ih=>exact .cons ⟨rfl,rfl⟩ ih
theorem Nr {w:World} {base T n:Nat} {v:Value} {xs:List Nat} (h:w.ownsRow base T 1 v n (xs.map fun x=>pvo x 0)):
  ∃r:RI,v=(if r.isNil then .slice none 0 0 else .slice (some ⟨r.blk,0,none⟩) n r.cap)/\(r.isNil=true\/(base<=r.blk/\r.blk<w.heap.size))/\n=xs.length /\
   ∀(ρ:Nat->RI) (Im:Nat->Prop) (nm:Nat),Bz (EP ρ nm r) w Im nm (.row T 1 (rowOf LB xs)):=by
 obtain⟨hl,h⟩:=h;have hn:n=xs.length:=by simpa using hl.symm
 rcases h with⟨rfl,h0⟩|⟨g,cap,cur,rfl,hg,hh,hle,hmax,hsz,htk⟩
 ·refine⟨⟨0,0,true⟩,rfl,.inl rfl,hn,fun ρ Im nm=>?_⟩;have:xs=[]:=List.length_eq_zero_iff.1 (by omega);subst this;unfold Bz;simp[EP,rowOf]
 ·refine⟨⟨g,cap,false⟩,rfl,.inr ⟨hg,(Array.getElem?_eq_some_iff.1 hh).1⟩,hn,fun ρ Im nm=>?_⟩;have hnew:EP ρ nm ⟨g,cap,false⟩ nm=⟨g,cap,false⟩:=by simp[EP]
  unfold Bz;rw[hnew];simp only[Bool.false_eq_true,if_false];refine⟨xs.map fun x=>pvo x 0,cur.toList.drop n,?_,?_,?_,?_,?_,hmax⟩
  ·rw[hh]
   congr 2
   rw[Nat.mul_one] at htk;rw[<-htk,AeB]
  ·exact WB xs
  ·intro x hx;obtain⟨b,_,rfl⟩:=AeO.1 hx
   rfl
  ·simp only[Aet,Aep,Array.length_toList];omega
  ·rw[Al,<-hn];exact hle
end Go.Proofs.M
end
section
namespace Go.Proofs.Q
open Go Go.Sx
set_option maxRecDepth 4000
attribute [local irreducible] VR VC thenQ blockQ retL
instance Tryz.Aea:K1 Tryz.prog 3 1:=Uu (AM.int Tryz.Yx rfl)
structure Pk where
 id:Int
 to:Int
 prio:Int
 born:Int
 XV:Int
 data:ByteArray
 deriving DecidableEq,Inhabited
def Pk.enc (x:Pk):List D:=[.int .i64 x.id,.int .i64 x.to,.int .i64 x.prio,.int .i64 x.born,.int .i64 x.XV,.str x.data]
def Pk.cs (x:Pk):List C:=[.d (.int .i64 x.id),.d (.int .i64 x.to),.d (.int .i64 x.prio),.d (.int .i64 x.born),.d (.int .i64 x.XV),.d (.str x.data)]
abbrev pkA (x:Pk):AV:=.agg x.cs
abbrev pks (l:List Pk):D:=IS Pk.enc 6 l
theorem Ac1 {x y:Pk} (h:[SV.str x.data,SV.int IntKind.i64 x.XV,SV.int IntKind.i64 x.born,SV.int IntKind.i64 x.prio,SV.int IntKind.i64 x.to,SV.int IntKind.i64 x.id].reverse=[SV.str y.data,SV.int IntKind.i64 y.XV,SV.int IntKind.i64 y.born,SV.int IntKind.i64 y.prio,SV.int IntKind.i64 y.to,SV.int IntKind.i64 y.id].reverse):x=y:=by
 have h:=List.reverse_inj.1 h;cases x;cases y;simp only[List.cons.injEq,SV.int.injEq,SV.bool.injEq,SV.str.injEq,true_and,and_true] at h;obtain⟨rfl,rfl,rfl,rfl,rfl,rfl⟩:=h
 rfl
instance:Ij Pk.enc:=⟨fun _=>rfl⟩
structure Dp where
 id:Int
 slot:Int
 dropped:Bool
 deriving DecidableEq,Inhabited
def Dp.enc (x:Dp):List D:=[.int .i64 x.id,.int .i64 x.slot,.bool x.dropped]
def Dp.cs (x:Dp):List C:=[.d (.int .i64 x.id),.d (.int .i64 x.slot),.d (.bool x.dropped)]
abbrev dpA (x:Dp):AV:=.agg x.cs
abbrev dps (l:List Dp):D:=IS Dp.enc 3 l
instance:Ij Dp.enc:=⟨fun _=>rfl⟩
structure Qu where
 Bk:Int
 Af:List Pk
 deriving DecidableEq,Inhabited
def Qu.cs (q:Qu):List C:=[.d (.int .i64 q.Bk),.d (pks q.Af)]
abbrev quA (q:Qu):AV:=.agg q.cs
def inI (n lo hi:Int):Bool:=decide (lo<=n/\n<=hi)
theorem DN (n lo hi:Int):FnS Tryz.prog 211 [AI n,AI lo,AI hi] [] (AB (inI n lo hi)) []:=by
 refine fb Tryz.func211 (by kernel_rfl) rfl Tryz.ntmps211 Tryz.results211 rfl rfl rfl rfl fun E hS=>?_
 repeat'(first|refine sB ?_|refine Aj rfl (by exact tt0) ?_|(refine Ax rfl ?_ ?_<;>intro h<;>have hq:=h<;>(try simp only[hqs] at hq))|fail)
 all_goals refine As Ab rfl ?_
 all_goals simp_all [inI]<;>omega
def Fm (p:Pk):Int:=
 if p.id<0\/inI p.to (-1) 31=false\/inI p.prio 0 3=false\/inI p.born 0 1099511627776=false\/inI p.XV 1 4096=false then 2 else if 127<p.data.size then 8 else 0
theorem HZ (p:Pk):FnS Tryz.prog 212 [pkA p] [] (AI (Fm p)) []:=by
 refine fb Tryz.func212 (by kernel_rfl) rfl Tryz.ntmps212 Tryz.results212 rfl rfl rfl rfl fun E hS=>?_
 repeat'(first|refine sB ?_|refine Aj rfl (by exact tt0) ?_|(refine gC ?_;first|refine Aa (DN _ _ _) (gk rfl) rfl rfl rfl (by rfl) rfl (by rfl) rfl ?_)|(refine Ax rfl ?_ ?_<;>intro h<;>have hq:=h<;>(try simp only[hqs] at hq))|(refine gD ?_;first|refine Ah rfl ?_|(refine Ay rfl ?_ ?_<;>intro h<;>have hq:=h<;>(try simp only[hqs] at hq)))|fail)
 all_goals refine AG Ab rfl ?_
 all_goals unfold Fm
 all_goals first
  |(simp_all;done)
  |(simp_all;omega)
  |trace_state
def Ix (l:List Pk) (k:Nat):Int:=
 if Fm (l.getD k default)≠0 then Fm (l.getD k default)
 else if((l.take k).any fun x=>decide (x.id=(l.getD k default).id))=true then 6
 else if 0<k/\(l.getD k default).prio<(l.getD (k-1) default).prio then 5 else 0
def Bq (q:Qu):Int:=if inI q.Bk 1 64=false then 2 else if q.Bk<q.Af.length then 8 else Dc q.Af.length (Ix q.Af)
theorem IG {q:Qu} {k:Nat} {e:Int} (h1:inI q.Bk 1 64=true) (h0:(q.Af.length:Int)<=q.Bk) (h:k<=q.Af.length/\∀i,i<k->Ix q.Af i=0) (hk:k<q.Af.length) (he:Ix q.Af k=e) (hne:e≠0):e=Bq q:=by
 subst he;rw[Bq,AeS (by simp[h1]),AeS (by omega),Gq h.2 hk hne]
theorem Qf {q:Qu} {k:Nat} (h1:inI q.Bk 1 64=true) (h0:(q.Af.length:Int)<=q.Bk) (h:k<=q.Af.length/\∀i,i<k->Ix q.Af i=0) (hk:q.Af.length<=k):0=Bq q:=by
 rw[Bq,AeS (by simp[h1]),AeS (by omega),CD fun i hi=>h.2 i (by omega)]
set_option maxRecDepth 4000 in
set_option maxHeartbeats 200000 in
theorem EK (q:Qu):FnS Tryz.prog 157 [quA q] [] (AI (Bq q)) []:=by
 refine fb Tryz.func157 (by kernel_rfl) rfl Tryz.ntmps157 Tryz.results157 rfl rfl rfl rfl fun E hS=>?_
 repeat'(first|refine sC ?_|refine Aj rfl (by exact tt0) ?_|(refine gC ?_;first|refine Aa (DN _ _ _) (gk rfl) rfl rfl rfl (by rfl) rfl (by rfl) rfl ?_)|(show VR _ _ _ (⟨_,.makeMap _ none,_,_,_,_⟩ :: _) _ _ _;first|refine O5 (gk rfl) rfl rfl rfl rfl ?_)|(refine gD ?_;first|(refine Ay rfl ?_ ?_<;>intro h<;>have hq:=h<;>(try simp only[hqs] at hq)))|fail)
 ·refine AG Ab rfl ?_;rw[Bq,AeT hq]
 ·refine AG Ab rfl ?_;rw[Bq,AeS (by simp_all),AeT (by omega)]
 ·have h1:inI q.Bk 1 64=true:=by simp_all
  have h2:q.Bk<=64:=by simp[inI] at h1;omega
  refine AA (ι:=Nat) (fun k=>AS [(1,.c (.ptr 1 0)),(3,.c (.mp 17)),(19,AD (pks q.Af)),(20,AI q.Af.length),(21,AI k)] [(1,.box q.cs),(17,.map (mpO k1 cfB (XS Pk.id (q.Af.take k))))]) (fun k=>k<=q.Af.length/\∀i,i<k->Ix q.Af i=0) (fun k=>q.Af.length-k) 0 ⟨AeV _,fun i hi=>absurd hi (AeQ _)⟩ ?_ ?_
  ·refine lg ?_ ?_ rfl (by rfl)
   all_goals repeat'(first|exact tt0|refine⟨⟨_,rfl,?_⟩,?_⟩|exact .c .d|exact .c (.ptr rfl)|exact .c (.mp rfl)|exact .Bh rfl rfl|exact .AdQ (fun _=>rfl) rfl|fail)
  ·intro k hk
   repeat'(first|refine sR ?_|refine Aj rfl (by exact tt0) ?_|(refine gC ?_;first|refine Aa (HZ _) (gk rfl) rfl rfl rfl (by rfl) rfl (by rfl) rfl ?_)|(refine gI ?_;first|refine Aq (gk rfl) rfl rfl rfl rfl rfl (by omega) rfl ?_)|(show VR _ _ _ (⟨_,.lookup _ _ _ _,_,_,_,_⟩ :: _) _ _ _;first|refine RA (gk rfl) rfl rfl rfl rfl rfl rfl ?_)|refine sq 14 rfl ?_|(refine gD ?_;first|(refine Ay rfl ?_ ?_<;>intro h<;>have hq:=h<;>(try simp only[hqs] at hq)))|refine BV ?_|fail)
   ·refine AG Ab rfl ?_;refine(IG (e:=Fm (q.Af.getD k default)) h1 (by omega) hk (by omega) ?_ hq).symm;rw[Ix,AeT hq]
   ·rw[QG] at hq;refine AG Ab rfl ?_;refine(IG (e:=6) h1 (by omega) hk (by omega) ?_ (by decide)).symm;rw[Ix,AeS (by omega),AeT hq]
   ·clear h;rw[QG] at hq;have ha:=hq;clear hq
    repeat'(first|refine sB ?_|refine Aj rfl (by first|exact tt0|omega) ?_|(refine gI ?_;first|refine Dm (gk rfl) rfl rfl rfl rfl rfl (by omega) rfl ?_)|(show VR _ _ _ (⟨_,.mapUpdate _ _ _ _,_,_,_,_⟩ :: _) _ _ _;first|refine LP (gk rfl) rfl rfl rfl rfl rfl ?_)|(refine Ax rfl ?_ ?_<;>intro h<;>have hq:=h<;>(try simp only[hqs] at hq))|refine Ap (by kernel_rfl) ?_|(refine gD ?_;first|refine Ag rfl ?_|(refine Ay rfl ?_ ?_<;>intro h<;>have hq:=h<;>(try simp only[hqs] at hq)))|fail)
    ·refine AG Ab rfl ?_;refine(IG (e:=5) h1 (by omega) hk (by omega) ?_ (by decide)).symm;rw[Ix,AeS (by omega),AeS (by rw[ha];decide),AeT (by omega)]
    all_goals
     refine⟨k+1,⟨by omega,fun i hi=>?_⟩,by omega,?_⟩
     ·by_cases hik:i<k
      ·exact hk.2 i hik
      ·have:i=k:=by omega
       subst this;rw[Ix,AeS (by omega),AeS (by rw[ha];decide),AeS (by omega)]
     ·have e:WA (XS Pk.id (q.Af.take k)) (q.Af.getD k default).id true=XS Pk.id (q.Af.take (k+1)):=by
       rw[Co (by omega)];exact Wm ha
      rw[<-e];refine Am (fun n=>n) ?_ ?_ rfl (by(simp only[wfL,wfs,Ae,Ad];rfl))
      all_goals repeat'(first|exact tt0|refine⟨⟨_,rfl,?_⟩,?_⟩|exact .c .d|exact .c (.ptr rfl)|exact .c (.mp rfl)|exact .Bh rfl rfl|exact .AdQ (fun _=>rfl) rfl|fail)
   ·refine AG Ab rfl ?_;exact(Qf h1 (by omega) hk (by omega)).symm
abbrev BY (p:Pk->Bool):List DV->DV->Prop:=fun ds r=>∃x:Pk,ds=[.agg x.enc]/\r=.d (.bool (p x))
theorem Hq (l:List Pk) (p:Pk->Bool):FnS Tryz.prog 210 [AD (pks l),.clo (BY p)] [] (AI (oI (Fl l p))) []:=by
 refine fb Tryz.func210 (by kernel_rfl) rfl Tryz.ntmps210 Tryz.results210 rfl rfl rfl rfl fun E hS=>?_
 refine BP (t:=0) rfl fun hb=>?_
 repeat'(first|refine sC ?_|refine Aj rfl (by exact tt0) ?_|fail)
 refine AA (ι:=Nat) (fun k=>AS [(0,AD (pks l)),(1,.clo (BY p)),(7,AI l.length),(8,AI k)] []) (fun k=>k<=l.length/\∀i,i<k->p (l.getD i default)=false) (fun k=>l.length-k) 0 ⟨AeV _,fun i hi=>absurd hi (AeQ _)⟩ ?_ ?_
 ·exact B4 ⟨rfl,rfl,rfl,rfl,trivial⟩ trivial rfl
 ·intro k hk
  repeat'(first|refine sC ?_|refine Aj rfl (by first|exact tt0|omega) ?_|(refine gC ?_;first|refine EV (⟨_,rfl,rfl⟩) (gk rfl) rfl rfl rfl rfl ?_)|(refine gI ?_;first|refine Aq (gk rfl) rfl rfl rfl rfl rfl (by omega) rfl ?_)|(refine gD ?_;first|(refine Ay rfl ?_ ?_<;>intro h<;>have hq:=h<;>(try simp only[hqs] at hq)))|fail)
  ·refine AG Ab rfl ?_;rw[Er hk.2 (by omega) h];rfl
  ·refine⟨k+1,⟨by omega,fun i hi=>?_⟩,by omega,B4 ⟨rfl,rfl,rfl,rfl,trivial⟩ trivial rfl⟩;by_cases hik:i<k
   ·exact hk.2 i hik
   ·have:i=k:=by omega
    subst this;exact h
  ·refine AG Ab rfl ?_;have:k=l.length:=by omega
   subst this;rw[DI hk.2];rfl
theorem IY (l:List Pk) (p:Pk->Bool):FnS Tryz.prog 155 [AD (pks l),.clo (BY p)] [] (AB (l.any p)) []:=by
 refine fb Tryz.func155 (by kernel_rfl) rfl Tryz.ntmps155 Tryz.results155 rfl rfl rfl rfl fun E hS=>?_
 repeat'(first|refine sB ?_|refine Aj rfl (by exact tt0) ?_|(refine gC ?_;first|refine AJ [] (Hq l p) (gk rfl) rfl (by(repeat'(first|exact .nil|refine .cons ?_ ?_|exact .of0 (.c .d)|exact .clo))<;>fail) (by rfl) rfl (by rfl) rfl (by rfl) rfl ?_)|fail)
 all_goals exact As Ab rfl (E1 _ _).symm
theorem GQ (l:List Pk) (hl:l.length<=100000):FnS Tryz.prog 136 [AD (pks l)] [] (.c (.row 7 l.length)) [(7,.row 120 6 (rowOf Pk.enc l))]:=by
 refine fb Tryz.func136 (by kernel_rfl) rfl Tryz.ntmps136 Tryz.results136 rfl rfl rfl rfl fun E hS=>?_
 refine AK ?_
 repeat'(first|refine sR ?_|refine Aj rfl (by exact tt0) ?_|refine sq 1 rfl ?_|fail)
 refine BB ?_;refine BB ?_;refine Fx rfl rfl rfl rfl fun b hb=>?_
 repeat'(first|refine sB ?_|refine Aj rfl (by exact tt0) ?_|(refine gA ?_;first|refine Bf (gk rfl) rfl rfl rfl (by rfl) (by exact .rd) rfl rfl rfl (by(try dsimp only);omega) rfl rfl ?_)|(refine gD ?_;first|(refine Ay rfl ?_ ?_<;>intro h<;>have hq:=h<;>(try simp only[hqs] at hq)))|fail)
 ·have h0:l=[]:=Ae3 (hb (by assumption));subst h0;exact An (le_nil (T:=120) (sz:=6) (nm:=7) (t:=2) rfl rfl) (Bn Ab rfl rfl)
 ·refine An (Am (l:=[(2,.c (.row 7 l.length))]) (b:=[(7,.row 120 6 (rowOf Pk.enc l))]) (fun n=>n) ⟨⟨_,rfl,.c (.row rfl (by simp))⟩,trivial⟩ ⟨⟨_,rfl,.Bc ?_ Ai⟩,trivial⟩ rfl (by simp only[wfL,wfs];rfl)) (Bn Ab rfl rfl);exact(List.nil_append _).trans (FC (enc:=Pk.enc) (sz:=6) fun _=>rfl)
theorem X4 (l:List Pk) (p:Pk->Bool) (hl:l.length<=100000):FnS Tryz.prog 221 [.c (.row 0 l.length),.clo (BY p)] [(0,.row 120 6 (rowOf Pk.enc l))]
  (.c (.row 0 (l.filter fun x=>!p x).length)) [(0,.row 120 6 (rowOf Pk.enc (l.filter fun x=>!p x)))]:=by
 refine FnS.Bu (enters_of Tryz.func221 (by kernel_rfl) rfl) Tryz.func221 rfl Tryz.ntmps221 Tryz.results221 rfl (by first|rfl|(simp only[AZ,wfL,AH,wfs];rfl)) rfl fun E=>?_
 refine AK ?_;have hidx:=Hq l p;cases hf:Fl l p with
 |none=>
  rw[hf] at hidx;have hidx':FnS Tryz.prog 210 [AD (pks l),.clo (BY p)] [] (AI (-1)) []:=hidx
  repeat'(first|refine sB ?_|refine Aj rfl (by exact tt0) ?_|(refine gC ?_;first|refine AJ [0] (hidx') (gk rfl) rfl (by(repeat'(first|exact .nil|refine .cons ?_ ?_|exact .clo|exact(.of0 (.c (A9 (by simp) rfl rfl (fun _=>rfl))))))<;>fail) (by rfl) rfl (by rfl) rfl (by rfl) rfl ?_)|(refine gD ?_;first|refine Ah rfl ?_)|fail)
  have e:l.filter (fun x=>!p x)=l:=Go.Sx.filter_none (EE hf);rw[e];exact JU (Bn Ab rfl rfl)
 |some i=>
  rw[hf] at hidx;obtain⟨hi,hpi,hlt⟩:=BJ hf;have hidx':FnS Tryz.prog 210 [AD (pks l),.clo (BY p)] [] (AI (i:Nat)) []:=hidx
  repeat'(first|refine sC ?_|refine Aj rfl (by first|exact tt0|omega) ?_|(refine gC ?_;first|refine AJ [0] (hidx') (gk rfl) rfl (by(repeat'(first|exact .nil|refine .cons ?_ ?_|exact .clo|exact(.of0 (.c (A9 (by simp) rfl rfl (fun _=>rfl))))))<;>fail) (by rfl) rfl (by rfl) rfl (by rfl) rfl ?_)|(refine gD ?_;first|refine Ag rfl ?_)|fail)
  refine AA (ι:=Nat×Nat×List Pk) (fun q=>AS [(0,.c (.row 0 l.length)),(1,.clo (BY p)),(5,AI q.2.1),(6,AI q.1)] [(0,.row 120 6 (rowOf Pk.enc q.2.2))])
   (fun q=>q.1<=l.length/\q.2.1<q.1/\q.2.2.length=l.length/\q.2.2.take q.2.1=(l.take q.1).filter (fun x=>!p x)/\q.2.2.drop q.1=l.drop q.1) (fun q=>l.length-q.1) (i+1,i,l) ⟨hi,Nat.lt_succ_self _,rfl,Go.Sx.H3 hi hpi hlt,rfl⟩ ?_ ?_
  ·exact B4 ⟨rfl,rfl,rfl,rfl,trivial⟩ ⟨rfl,trivial⟩ (by simp only[wfL,wfs];rfl)
  ·rintro⟨k,j,L⟩ ⟨h1,h2,h3,h4,h5⟩;dsimp only at h1 h2 h3 h4 h5 ⊢
   repeat'(first|refine sR ?_|refine Aj rfl (by first|exact tt0|omega) ?_|(refine gC ?_;first|refine EV (⟨_,rfl,rfl⟩) (gk rfl) rfl rfl rfl rfl ?_)|(refine gI ?_;first|refine BF (gk rfl) rfl rfl rfl rfl rfl rfl (by omega) (by omega) rfl ?_)|(refine gE ?_;first|refine BA (gk rfl) rfl rfl (by(simp only[lns]<;>omega)) rfl rfl ?_)|(refine gL ?_;first|refine Da (gk rfl) rfl rfl (by omega) rfl rfl rfl ?_)|(refine gS ?_;first|refine By (gk rfl) rfl rfl rfl (by omega) rfl rfl rfl ?_)|refine sq 11 rfl ?_|(refine gD ?_;first|(refine Ay rfl ?_ ?_<;>intro h<;>have hq:=h<;>(try simp only[hqs] at hq)))|refine BV ?_|fail)
   ·have hk:k<l.length:=by omega
    obtain⟨hx,hd⟩:=Go.Sx.EI h3 h5 hk;refine⟨(k+1,j+1,L.set j (L.getD k default)),⟨by dsimp only;omega,by dsimp only;omega,by simp[h3],?_,?_⟩,by dsimp only;omega,Am (fun n=>n) ⟨⟨_,rfl,.c (.row rfl rfl)⟩,⟨_,rfl,.clo⟩,⟨_,rfl,.c .d⟩,⟨_,rfl,.c .d⟩,trivial⟩
     ⟨⟨_,rfl,.Bc (Dx rfl) Ai⟩,trivial⟩ rfl (by simp only[wfL,wfs];rfl)⟩
    ·dsimp only;rw[Go.Sx.take_set (by omega),h4,Go.Sx.Co hk,List.filter_append,hx,List.filter_cons_of_pos (by rw[<-hx];exact h)];rfl
    ·dsimp only;rw[List.drop_set_of_lt (by omega),hd]
   ·have hk:k<l.length:=by omega
    obtain⟨hx,hd⟩:=Go.Sx.EI h3 h5 hk;refine⟨(k+1,j,L),⟨by dsimp only;omega,by dsimp only;omega,h3,?_,hd⟩,by dsimp only;omega,Am (fun n=>n) ⟨⟨_,rfl,.c (.row rfl rfl)⟩,⟨_,rfl,.clo⟩,⟨_,rfl,.c .d⟩,⟨_,rfl,.c .d⟩,trivial⟩
     ⟨⟨_,rfl,.Bc rfl Ai⟩,trivial⟩ rfl (by simp only[wfL,wfs];rfl)⟩
    dsimp only;rw[h4,Go.Sx.Co hk,List.filter_append,List.filter_cons_of_neg (by rw[<-hx,h];simp)];simp
   ·have hk:k=l.length:=by omega
    subst hk;refine Ed (nm:=0) rfl (EW (by omega)) fun cp spare hcp hmax=>?_
    rw[Al] at hcp
    repeat'(first|refine sB ?_|refine Aj rfl (by exact tt0) ?_|(show VR _ _ _ (⟨_,.slice _ _ _ _ _,_,_,_,_⟩ :: _) _ _ _;first|refine B8 (gk rfl) rfl rfl (by exact .full) rfl rfl (by first|exact .no|exact .int rfl rfl) (by omega) (by omega) rfl ?_|refine Bg (gk rfl) rfl rfl (by exact .full) rfl rfl (by exact .int rfl rfl) (by exact .no) (by omega) (by omega) (by omega) rfl ?_)|(show VR _ _ _ (⟨_,.call ⟨.builtin .clear,_,_⟩,_,_,_,_⟩ :: _) _ _ _;first|refine Ja (gk rfl) rfl (by exact .sub) rfl rfl rfl rfl rfl (by(simp only[lns];omega)) ?_)|fail)
    rw[List.take_length] at h4;have hj:(l.filter fun x=>!p x).length=j:=by rw[<-h4,Aem];omega
    rw[hj,<-h4];refine An (Am (l:=[(4,.c (.row 0 j))]) (b:=[(0,.row 120 6 (rowOf Pk.enc (L.take j)))]) (fun n=>n) ⟨⟨_,rfl,.c (.row rfl rfl)⟩,trivial⟩ ⟨⟨_,rfl,.I4 j ?_⟩,trivial⟩ rfl (by simp only[wfL,wfs];rfl)) (Bn Ab rfl rfl);rw[Aey,List.take_append_of_le_length (by rw[Aem,Al];omega),List.take_take,Nat.min_self,CH]
instance AdO:Overlaps Tryz.prog 301:=
 ⟨34,4,120,6,AM.slice Tryz.XP rfl,fun w=>AM.Bj Tryz.Tw w,fun args w=>run_callFunc_extern Tryz.func301 (by kernel_rfl) (by kernel_rfl) (by kernel_rfl) (by kernel_rfl) args w⟩
abbrev Pk1 (x:Pk):D:=.rd 1 6 fun _ j=>(Pk.enc x).getD j .Dh
theorem Lu (l:List Pk) (i:Nat) (x:Pk):rowOf Pk.enc (Bp l i x)=List.take i (rowOf Pk.enc l)++(Pk.enc x).map C.d :: List.drop i (rowOf Pk.enc l):=by
 rw[Bp,A4,CH,Eu]
 rfl
theorem HV (l:List Pk) (i:Nat) (x:Pk) (hl:l.length<=100000) (hi:i<=l.length):FnS Tryz.prog 273 [.c (.row 0 l.length),AI i,AD (Pk1 x)] [(0,.row 120 6 (rowOf Pk.enc l))]
  (.c (.row 1 (l.length+1))) [(1,.row 120 6 (rowOf Pk.enc (Bp l i x)))]:=by
 refine FnS.Bu (enters_of Tryz.func273 (by kernel_rfl) rfl) Tryz.func273 rfl Tryz.ntmps273 Tryz.results273 rfl (by first|rfl|(simp only[AZ,wfL,AH,wfs];rfl)) rfl fun E=>?_
 refine AK ?_
 repeat'(first|refine sR ?_|refine Aj rfl (by exact tt0) ?_|(refine gE ?_;first|refine BA (gk rfl) rfl rfl (by exact Al.symm) rfl rfl ?_)|(refine gA ?_;first|refine Bf (gk rfl) rfl rfl rfl (by exact Al.symm) (by exact .rd) rfl rfl rfl (by(try dsimp only);omega) rfl rfl ?_)|(show VR _ _ _ (⟨_,.slice _ _ _ _ _,_,_,_,_⟩ :: _) _ _ _;first|refine Bg (gk rfl) rfl rfl (by exact .row) rfl rfl (by exact .int rfl rfl) (by exact .no) (by omega) (by(simp only[lns];omega)) (by(simp only[lns];omega)) rfl ?_)|refine sq 8 rfl ?_|(refine gD ?_;first|refine Ag rfl ?_|(refine Ay rfl ?_ ?_<;>intro h<;>have hq:=h<;>(try simp only[hqs] at hq)))|fail)
 ·have e:i=l.length:=by omega
  subst e;refine An (Am (l:=[(6,.c (.row 1 (l.length+1)))]) (b:=[(1,.row 120 6 (rowOf Pk.enc (Bp l l.length x)))]) (fun n=>if n=1 then 25 else n) ⟨⟨_,rfl,.c (.row rfl rfl)⟩,trivial⟩
   ⟨⟨_,rfl,.Bc ?_ Ai⟩,trivial⟩ rfl (by simp only[wfL,wfs];rfl)) (Bn Ab rfl rfl)
  rw[Bp,List.take_length,List.drop_length,A4]
  rfl
 ·refine Ed (nm:=0) rfl (EW (by omega)) fun cp spare hcp hmax=>?_
  rw[Al] at hcp
  repeat'(first|refine sR ?_|refine Aj rfl (by first|exact tt0|omega) ?_|(refine gC ?_;first|refine Ft (gk rfl) rfl rfl rfl (by exact .full) (by omega) rfl rfl rfl ?_)|(refine gA ?_;first|refine Db (gk rfl) rfl rfl rfl rfl rfl rfl rfl rfl rfl rfl (by omega) (by(simp only[lns];omega)) (by omega) (by(try dsimp only);omega) rfl rfl ?_)|(show VR _ _ _ (⟨_,.slice _ _ _ _ _,_,_,_,_⟩ :: _) _ _ _;first|refine B8 (gk rfl) rfl rfl (by exact .full) rfl rfl (by first|exact .no|exact .int rfl rfl) (by omega) (by omega) rfl ?_|refine Bg (gk rfl) rfl rfl (by exact .full) rfl rfl (by exact .int rfl rfl) (by exact .no) (by omega) (by omega) (by omega) rfl ?_)|(show VR _ _ _ (⟨_,.call ⟨.builtin .copy,_,_⟩,_,_,_,_⟩ :: _) _ _ _;first|refine F7 (gk rfl) rfl rfl (by exact .sub) rfl (by first|exact .src .rd|exact .tail rfl (by(simp only[lns];omega)) (by omega)) rfl rfl rfl (by(simp only[lns];omega)) (by omega) rfl ?_)|(show VR _ _ _ (⟨_,.call ⟨.builtin .cap,_,_⟩,_,_,_,_⟩ :: _) _ _ _;first|refine Fw (gk rfl) rfl rfl rfl rfl ?_)|refine Ap (by kernel_rfl) ?_|refine sq 10 rfl ?_|(refine gD ?_;first|refine Ah rfl ?_|(refine Ay rfl ?_ ?_<;>intro h<;>have hq:=h<;>(try simp only[hqs] at hq)))|fail)
  ·have hq1:((l.length:Int)+(1:Nat)-i).toNat=l.length+1-i:=by omega
   refine Ed (nm:=40) rfl (by
    intro e;have:=congrArg List.length e;rw[Aeh,Aeq] at this;change _+_=0 at this;omega) fun cp2 spare2 hcp2 hmax2=>?_
   rw[Aeh,Aeq,Aem,Al] at hcp2
   repeat'(first|refine sB ?_|refine Aj rfl (by first|exact tt0|omega) ?_|(show VR _ _ _ (⟨_,.slice _ _ _ _ _,_,_,_,_⟩ :: _) _ _ _;first|refine Bg (gk rfl) rfl rfl (by exact .full) rfl rfl (by exact .int rfl rfl) (by exact .no) (by omega) (by omega) (by omega) rfl ?_)|(show VR _ _ _ (⟨_,.call ⟨.builtin .copy,_,_⟩,_,_,_,_⟩ :: _) _ _ _;first|refine F7 (gk rfl) rfl rfl (by exact .sub) rfl (by first|exact .src .rd|exact .src (.sub rfl (by exact .full) (by(simp only[lns];omega)))) rfl rfl rfl (by(simp only[lns];omega)) (by omega) rfl ?_)|refine Ap (by kernel_rfl) ?_|fail)
   refine An (Am (l:=[(6,.c (.row 1 (l.length+1)))]) (b:=[(1,.row 120 6 (rowOf Pk.enc (Bp l i x)))]) (fun n=>if n=1 then 40 else n) ⟨⟨_,rfl,.c (.row rfl (by omega))⟩,trivial⟩
    ⟨⟨_,rfl,.I4 (l.length+1) ?_⟩,trivial⟩ rfl (by simp only[wfL,wfs];rfl)) (Bn Ab rfl rfl)
   rw[hq1,show min 1 (i+(l.length+1-i)-i)=1 by omega,show min (l.length-i) (i+(l.length+1-i)-(i+1))=l.length-i by omega];exact(Jv (y:=(Pk.enc x).map C.d) (Al (enc:=Pk.enc)) (by omega) rfl).trans (Lu l i x).symm
  ·refine An (Am (l:=[(6,.c (.row 1 (l.length+1)))]) (b:=[(1,.row 120 6 (rowOf Pk.enc (Bp l i x)))]) (fun n=>if n=1 then 0 else n) ⟨⟨_,rfl,.c (.row rfl rfl)⟩,trivial⟩
    ⟨⟨_,rfl,.I4 (l.length+1) ?_⟩,trivial⟩ rfl (by simp only[wfL,wfs];rfl)) (Bn Ab rfl rfl)
   rw[show min 1 (l.length+1-i)=1 by omega,show min (l.length+1-i) (l.length+1-(i+1))=l.length-i by omega];exact(Ju (y:=(Pk.enc x).map C.d) (Al (enc:=Pk.enc)) (by omega)).trans (Lu l i x).symm
theorem Vg (l:List Pk) (i:Nat) (hi:i<l.length) (hl:l.length<=100000):FnS Tryz.prog 309 [.c (.row 0 l.length),AI i,AI (i+1:Int)] [(0,.row 120 6 (rowOf Pk.enc l))]
  (.c (.row 0 (l.length-1))) [(0,.row 120 6 (rowOf Pk.enc (l.eraseIdx i)))]:=by
 refine FnS.Bu (enters_of Tryz.func309 (by kernel_rfl) rfl) Tryz.func309 rfl Tryz.ntmps309 Tryz.results309 rfl (by first|rfl|(simp only[AZ,wfL,AH,wfs];rfl)) rfl fun E=>?_
 refine AK ?_;refine Ed (nm:=0) rfl (EW (by omega)) fun cp spare hcp hmax=>?_
 rw[Al] at hcp
 repeat'(first|refine sB ?_|refine Aj rfl (by exact tt0) ?_|(refine gE ?_;first|refine O8 (gk rfl) rfl rfl rfl rfl ?_)|(refine gA ?_;first|refine KH (gk rfl) rfl rfl rfl (by exact .sub rfl (by exact .full) (by(simp only[lns];omega))) rfl rfl (by(simp only[lns];omega)) (by omega) rfl ?_)|(show VR _ _ _ (⟨_,.slice _ _ _ _ (some _),_,_,_,_⟩ :: _) _ _ _;first|refine MY (gk rfl) rfl rfl rfl rfl (by exact .int rfl rfl) (by exact .int rfl rfl) (by exact .int rfl rfl) (by omega) (by(simp only[lns];omega)) (by omega) rfl ?_)|(show VR _ _ _ (⟨_,.slice _ _ _ _ _,_,_,_,_⟩ :: _) _ _ _;first|refine B8 (gk rfl) rfl rfl (by exact .full) rfl rfl (by first|exact .no|exact .int rfl rfl) (by omega) (by omega) rfl ?_|refine Bg (gk rfl) rfl rfl (by exact .full) rfl rfl (by exact .int rfl rfl) (by first|exact .no|exact .int rfl rfl) (by first|omega|(simp only[lns];omega)) (by omega) (by omega) rfl ?_)|(show VR _ _ _ (⟨_,.call ⟨.builtin .clear,_,_⟩,_,_,_,_⟩ :: _) _ _ _;first|refine Ja (gk rfl) rfl (by exact .sub) rfl rfl rfl rfl rfl (by(simp only[lns];omega)) ?_)|refine Ap (by kernel_rfl) ?_|(refine gD ?_;first|(refine Ay rfl ?_ ?_<;>intro h<;>have hq:=h<;>(try simp only[hqs] at hq)))|fail)
 ·exfalso;omega
 ·have e1:i+(l.length-(i+1))=l.length-1:=by omega
  have e2:(l.eraseIdx i).length=l.length-1:=List.length_eraseIdx_of_lt hi;refine An (Am (l:=[(6,.c (.row 0 (l.length-1)))]) (b:=[(0,.row 120 6 (rowOf Pk.enc (l.eraseIdx i)))]) (fun n=>n) ⟨⟨_,rfl,.c (.row rfl e1)⟩,trivial⟩ ⟨⟨_,rfl,.I4 (l.length-1) ?_⟩,trivial⟩ rfl (by simp only[wfL,wfs];rfl)) (Bn Ab rfl rfl);rw[e1];exact Z0 (Al (enc:=Pk.enc)) hi
abbrev Acl (p:Dp->Bool):List DV->DV->Prop:=fun ds r=>∃x:Dp,ds=[.agg x.enc]/\r=.d (.bool (p x))
theorem Nq (a b:List Pk):FnS Tryz.prog 120 [AD (pks a),AD (pks b)] [] (AB (decide (a=b))) []:=by
 refine fb Tryz.func120 (by kernel_rfl) rfl Tryz.ntmps120 Tryz.results120 rfl rfl rfl rfl fun E hS=>?_
 refine BP (t:=0) rfl fun hb=>?_
 repeat'(first|refine sC ?_|refine Aj rfl (by exact tt0) ?_|(refine gD ?_;first|(refine Ay rfl ?_ ?_<;>intro h<;>have hq:=h<;>(try simp only[hqs] at hq)))|fail)
 ·refine As Ab rfl ?_;have:a≠b:=fun e=>by subst e;simp_all
  simp[this]
 ·refine AA (ι:=Nat) (fun k=>AS [(0,AD (pks a)),(1,AD (pks b)),(5,AI k)] []) (fun k=>k<=a.length/\∀i,i<k->a.getD i default=b.getD i default) (fun k=>a.length-k) 0 ⟨AeV _,fun i hi=>absurd hi (AeQ _)⟩ ?_ ?_
  ·exact B4 ⟨rfl,rfl,rfl,trivial⟩ trivial rfl
  ·rintro k ⟨hk,hall⟩
   repeat'(first|refine sC ?_|refine Aj rfl (by first|exact tt0|omega) ?_|(refine gI ?_;first|refine Aq (gk rfl) rfl rfl rfl rfl rfl (by omega) rfl ?_)|(refine gB ?_;first|refine Fu (gk rfl) rfl rfl rfl rfl rfl rfl rfl ?_)|refine Ap (by kernel_rfl) ?_|(refine gD ?_;first|(refine Ay rfl ?_ ?_<;>intro h<;>have hq:=h<;>(try simp only[hqs] at hq)))|fail)
   ·refine As Ab rfl ?_;have:a≠b:=fun e=>hq (by rw[e])
    simp[this]
   ·refine⟨k+1,⟨by omega,fun i hi=>?_⟩,by omega,B4 ⟨rfl,rfl,rfl,trivial⟩ trivial rfl⟩;by_cases hik:i<k
    ·exact hall i hik
    ·have:i=k:=by omega
     subst this;exact Ac1 hq
   ·refine As Ab rfl ?_;have:a=b:=Go.Sx.ED (by omega) fun i hi=>hall i (by omega)
    simp[this]
theorem UD (x:Pk) (t:Int):FnS Tryz.prog 300 [pkA x,.ep (fun _=>.int .i64 t) 1] [] (AB (decide (x.id=t))) []:=by
 refine fb Tryz.func300 (by kernel_rfl) rfl Tryz.ntmps300 Tryz.results300 rfl rfl rfl rfl fun E hS=>?_
 repeat'(first|refine sB ?_|refine Aj rfl (by exact tt0) ?_|fail)
 all_goals exact As Ab rfl rfl
theorem WV {σ:St} {t:Int} {n1:Nat} {L:List Nat} (hL:n1∈L) (h1:σ (.b n1)=some (.k (.box [.d (.int .i64 t)]))):AR Tryz.prog σ L (.fnc 300 [.ptr n1 0]) (.clo (BY fun x=>decide (x.id=t))):=
 .fnc (eps:=[.ep (fun _=>.int .i64 t) 1]) (.cons (.ptr hL h1 (fun j hj=>by
  have:j=0:=by omega
  subst this;rfl)) .nil) (enters_of Tryz.func300 (by kernel_rfl) rfl)
  (by rintro _ _ ⟨x,rfl,rfl⟩;exact⟨rfl,UD x t⟩)
theorem P2 (x:Pk) (t:Int):FnS Tryz.prog 315 [pkA x,.ep (fun _=>.int .i64 t) 1] [] (AB (decide (x.to=t))) []:=by
 refine fb Tryz.func315 (by kernel_rfl) rfl Tryz.ntmps315 Tryz.results315 rfl rfl rfl rfl fun E hS=>?_
 repeat'(first|refine sB ?_|refine Aj rfl (by exact tt0) ?_|fail)
 all_goals exact As Ab rfl rfl
theorem SL {σ:St} {t:Int} {n1:Nat} {L:List Nat} (hL:n1∈L) (h1:σ (.b n1)=some (.k (.box [.d (.int .i64 t)]))):AR Tryz.prog σ L (.fnc 315 [.ptr n1 0]) (.clo (BY fun x=>decide (x.to=t))):=
 .fnc (eps:=[.ep (fun _=>.int .i64 t) 1]) (.cons (.ptr hL h1 (fun j hj=>by
  have:j=0:=by omega
  subst this;rfl)) .nil) (enters_of Tryz.func315 (by kernel_rfl) rfl)
  (by rintro _ _ ⟨x,rfl,rfl⟩;exact⟨rfl,P2 x t⟩)
theorem TW (x p:Pk):FnS Tryz.prog 272 [pkA x,.ep (fun j=>p.enc.getD j .Dh) 6] [] (AB (decide (p.prio<x.prio))) []:=by
 refine fb Tryz.func272 (by kernel_rfl) rfl Tryz.ntmps272 Tryz.results272 rfl rfl rfl rfl fun E hS=>?_
 repeat'(first|refine sB ?_|refine Aj rfl (by exact tt0) ?_|fail)
 all_goals exact As Ab rfl rfl
theorem Jl {σ:St} {p:Pk} {n1:Nat} {L:List Nat} (hL:n1∈L) (h1:σ (.b n1)=some (.k (.box p.cs))):AR Tryz.prog σ L (.fnc 272 [.ptr n1 0]) (.clo (BY fun x=>decide (p.prio<x.prio))):=
 .fnc (eps:=[.ep (fun j=>p.enc.getD j .Dh) 6]) (.cons (.ptr hL h1 (fun j hj=>by
  have:j=0\/j=1\/j=2\/j=3\/j=4\/j=5:=by omega
  rcases this with rfl|rfl|rfl|rfl|rfl|rfl<;>rfl)) .nil) (enters_of Tryz.func272 (by kernel_rfl) rfl)
  (by rintro _ _ ⟨x,rfl,rfl⟩;exact⟨rfl,TW x p⟩)
def N8 (l:List Pk) (id:Int):Option Nat:=Fl l fun x=>decide (x.id=id)
def PQ (l:List Pk) (to:Int):Option Nat:=Fl l fun x=>decide (x.to=to)
theorem JW (q:Qu) (id:Int):FnS Tryz.prog 271 [quA q,AI id] [] (AI (oI (N8 q.Af id))) []:=by
 refine fb Tryz.func271 (by kernel_rfl) rfl Tryz.ntmps271 Tryz.results271 rfl rfl rfl rfl fun E hS=>?_
 repeat'(first|refine sB ?_|refine Aj rfl (by exact tt0) ?_|(refine gC ?_;first|refine AJ [3] (Hq q.Af (fun x=>decide (x.id=id))) (gk rfl) rfl (by(repeat'(first|exact .nil|refine .cons ?_ ?_|exact .of0 (.c .d)|exact(WV (by simp) rfl)))<;>fail) (by rfl) rfl (by rfl) rfl (by rfl) rfl ?_)|fail)
 all_goals exact AG Ab rfl rfl
theorem SI (l:List Pk) (to:Int):FnS Tryz.prog 307 [AD (pks l),AI to] [] (AI (oI (PQ l to))) []:=by
 refine fb Tryz.func307 (by kernel_rfl) rfl Tryz.ntmps307 Tryz.results307 rfl rfl rfl rfl fun E hS=>?_
 repeat'(first|refine sB ?_|refine Aj rfl (by exact tt0) ?_|(refine gC ?_;first|refine AJ [3] (Hq l (fun x=>decide (x.to=to))) (gk rfl) rfl (by(repeat'(first|exact .nil|refine .cons ?_ ?_|exact .of0 (.c .d)|exact(SL (by simp) rfl)))<;>fail) (by rfl) rfl (by rfl) rfl (by rfl) rfl ?_)|fail)
 all_goals exact AG Ab rfl rfl
def Gb (p:Pk) (slot:Int):Bool:=decide (0<=slot)&&decide (p.XV<=IntKind.i64.wrap (slot-p.born))
theorem K6 (p:Pk) (slot:Int):FnS Tryz.prog 219 [pkA p,AI slot] [] (AB (Gb p slot)) []:=by
 refine fb Tryz.func219 (by kernel_rfl) rfl Tryz.ntmps219 Tryz.results219 rfl rfl rfl rfl fun E hS=>?_
 repeat'(first|refine sB ?_|refine Aj rfl (by exact tt0) ?_|(refine gB ?_;first|refine IM rfl rfl rfl rfl rfl ?_)|(refine Ax rfl ?_ ?_<;>intro h<;>have hq:=h<;>(try simp only[hqs] at hq))|fail)
 all_goals(refine As Ab rfl ?_;unfold Gb;first|(simp_all;done)|(simp_all;intro h;omega))
def atP (l:List Pk) (pr:Int):Nat:=(Fl l fun x=>decide (pr<x.prio)).getD l.length
def noQ:Qu:=⟨0,[]⟩
def E7 (q:Qu) (p:Pk):Qu×List Pk×Int:=
 if Bq q≠0 then(noQ,[],1) else if Fm p≠0 then(noQ,[],Fm p) else if(q.Af.any fun x=>decide (x.id=p.id))=true then(noQ,[],6)
 else if q.Af.length=q.Bk then
  if(q.Af.getD (q.Af.length-1) default).prio<=p.prio then(noQ,[],13)
  else(⟨q.Bk,Bp (q.Af.take (q.Af.length-1)) (atP (q.Af.take (q.Af.length-1)) p.prio) p⟩,[q.Af.getD (q.Af.length-1) default],0)
 else(⟨q.Bk,Bp q.Af (atP q.Af p.prio) p⟩,[],0)
theorem CJ {q:Qu} (h:Bq q=0):1<=q.Bk/\q.Bk<=64/\(q.Af.length:Int)<=q.Bk:=by
 unfold Bq at h
 split at h
 ·cases h
 ·split at h
  ·cases h
  ·rename_i h1 h2;simp[inI] at h1;omega
theorem GC {q:Qu} {id:Int}:decide (0<=oI (N8 q.Af id))=q.Af.any fun x=>decide (x.id=id):=E1 _ _
set_option maxHeartbeats 2000000 in
theorem Ji (q:Qu) (p:Pk):FnS Tryz.prog 222 [quA q,pkA p] [] (.tup [quA (E7 q p).1,AD (pks (E7 q p).2.1),AI (E7 q p).2.2]) []:=by
 have hck:=EK q;have hfm:=HZ p;refine fb Tryz.func222 (by kernel_rfl) rfl Tryz.ntmps222 Tryz.results222 rfl rfl rfl rfl fun E hS=>?_
 refine AK ?_;by_cases hc:Bq q=0
 ·rw[hc] at hck;obtain⟨hl1,hl2,hl3⟩:=CJ hc;by_cases hf:Fm p=0
  ·rw[hf] at hfm;have hat:=Hq q.Af (fun x=>decide (p.prio<x.prio));have hat2:=Hq (q.Af.take (q.Af.length-1)) (fun x=>decide (p.prio<x.prio));have e:E7 q p=if(q.Af.any fun x=>decide (x.id=p.id))=true then(noQ,[],6)
     else if q.Af.length=q.Bk then
      if(q.Af.getD (q.Af.length-1) default).prio<=p.prio then(noQ,[],13)
      else(⟨q.Bk,Bp (q.Af.take (q.Af.length-1)) (atP (q.Af.take (q.Af.length-1)) p.prio) p⟩,[q.Af.getD (q.Af.length-1) default],0)
     else(⟨q.Bk,Bp q.Af (atP q.Af p.prio) p⟩,[],0):=by rw[E7,AeS (by omega),AeS (by omega)]
   repeat'(first|refine sR ?_|refine Aj rfl (by first|exact tt0|omega) ?_|(refine gC ?_;first|refine Aa (hck) (gk rfl) rfl rfl rfl (by rfl) rfl (by rfl) rfl ?_|refine Aa (hfm) (gk rfl) rfl rfl rfl (by rfl) rfl (by rfl) rfl ?_|refine Aa (JW q p.id) (gk rfl) rfl rfl rfl (by rfl) rfl (by rfl) rfl ?_|refine Aa (GQ q.Af (by omega)) (gk rfl) rfl rfl rfl (by(simp only[AZ,wfL,AH,wfs];rfl)) rfl (by exact B2) rfl ?_)|(refine gI ?_;first|refine Fv (gk rfl) rfl rfl rfl rfl rfl (by omega) (by exact Al.symm) rfl ?_)|(refine gE ?_;first|refine BA (gk rfl) rfl rfl (by exact Al.symm) rfl rfl ?_)|(refine gA ?_;first|refine JH (gk rfl) rfl rfl (by exact .row rfl (by rfl)) rfl rfl rfl (by(try dsimp only);omega) rfl rfl ?_)|(show VR _ _ _ (⟨_,.slice _ _ _ _ _,_,_,_,_⟩ :: _) _ _ _;first|refine B8 (gk rfl) rfl rfl (by exact .row) rfl rfl (by exact .nat rfl (by omega)) (by(simp only[lns];omega)) (by(simp only[lns];omega)) rfl ?_)|(refine gL ?_;first|refine Da (gk rfl) rfl rfl (by omega) rfl rfl rfl ?_|refine Cn (gk rfl) rfl rfl (by omega) rfl rfl rfl ?_)|refine Ap (by kernel_rfl) ?_|refine sq 15 rfl ?_|(refine gD ?_;first|refine Ag rfl ?_|(refine Ay rfl ?_ ?_<;>intro h<;>have hq:=h<;>(try simp only[hqs] at hq)))|fail)
   ·rw[AeT (by rw[<-GC];exact h)] at e;rw[e];refine An (Am (l:=[(4,.c (.ptr 4 0)),(5,AD (pks [])),(6,AI 6)]) (b:=[(4,.box noQ.cs)]) (fun n=>n) ?_ ?_ rfl (by rfl)) (Br Ab rfl rfl rfl rfl rfl rfl rfl rfl rfl)
    all_goals repeat'(first|exact tt0|refine⟨⟨_,rfl,?_⟩,?_⟩|exact .c .d|exact .c (.ptr rfl)|exact .c .nil|refine .box ?_|exact .nil|refine .cons ?_ ?_|exact .d|fail)
   ·have hn:((q.Af.length:Int)-1).toNat=q.Af.length-1:=by omega
    rw[hn] at hq;rw[AeS (by rw[<-GC];simp;omega),AeT (by omega),AeT hq] at e;rw[e];refine An (Am (l:=[(4,.c (.ptr 4 0)),(5,AD (pks [])),(6,AI 13)]) (b:=[(4,.box noQ.cs)]) (fun n=>n) ?_ ?_ rfl (by rfl)) (Br Ab rfl rfl rfl rfl rfl rfl rfl rfl rfl)
    all_goals repeat'(first|exact tt0|refine⟨⟨_,rfl,?_⟩,?_⟩|exact .c .d|exact .c (.ptr rfl)|exact .c .nil|refine .box ?_|exact .nil|refine .cons ?_ ?_|exact .d|fail)
   ·have hn:((q.Af.length:Int)-1).toNat=q.Af.length-1:=by omega
    rw[hn] at hq h;have hlt:(q.Af.take (q.Af.length-1)).length=q.Af.length-1:=by rw[Aem];omega
    rw[AeS (by rw[<-GC];simp;omega),AeT (by omega),AeS (by omega)] at e;rw[e];refine VC.le (σ':=AS [(2,.c (.ptr 2 0)),(3,.c (.ptr 3 0)),(4,.c (.ptr 4 0)),(8,.c (.row 8 (q.Af.take (q.Af.length-1)).length)),(9,AD (pks [q.Af.getD (q.Af.length-1) default]))]
     [(2,.box q.cs),(3,.box p.cs),(4,.box noQ.cs),(8,.row 120 6 (rowOf Pk.enc (q.Af.take (q.Af.length-1))))]) ?_ ?_
    ·rw[hn];refine Bv (fun n=>if n=8 then 30007 else n) [54] hS ?_ ?_ rfl (by(simp only[wfL,wfs];rfl))
     all_goals repeat'(first|exact tt0|refine⟨⟨_,rfl,?_⟩,?_⟩|exact .c (.ptr rfl)|(refine .c (.row rfl ?_);((try dsimp only);first|omega);done)|exact .c (.Ck (by(simp;done)) rfl rfl (fun _=>rfl))|exact .Bh rfl rfl|refine .box ?_|exact .nil|refine .cons ?_ ?_|exact .d|fail)
     exact .AaO (q.Af.length-1) CH
    ·cases ht:Fl (q.Af.take (q.Af.length-1)) (fun x=>decide (p.prio<x.prio)) with
     |none=>
      rw[ht] at hat2;have h':FnS Tryz.prog 210 [AD (pks (q.Af.take (q.Af.length-1))),.clo (BY fun x=>decide (p.prio<x.prio))] [] (AI (-1)) []:=hat2;have ha:atP (q.Af.take (q.Af.length-1)) p.prio=((q.Af.take (q.Af.length-1))).length:=by rw[atP,ht];rfl
      repeat'(first|refine sB ?_|refine Aj rfl (by exact tt0) ?_|(refine gC ?_;first|refine AJ [3,8] (h') (gk rfl) rfl (by(repeat'(first|exact .nil|refine .cons ?_ ?_|exact(Jl (by simp) rfl)|exact(.of0 (.c (A9 (by simp) rfl rfl (fun _=>rfl))))))<;>fail) (by rfl) rfl (by rfl) rfl (by rfl) rfl ?_|refine Cw [70] (HV (q.Af.take (q.Af.length-1)) ((q.Af.take (q.Af.length-1))).length p (by omega) (AeU _)) (gk rfl) rfl rfl Ai rfl (by(repeat'(first|exact .nil|refine .cons ?_ ?_|exact .of0 (.c .d)|exact .of0 (.c (H4 (by decide) rfl rfl (by repeat'(first|exact tt0|refine⟨?_,?_⟩|rfl))))))<;>fail) rfl (by exact KX (fun _=>rfl)) rfl (by(simp only[AZ,wfL,AH,wfs];rfl)) rfl (by exact B2) rfl ?_)|(refine gE ?_;first|refine BA (gk rfl) rfl rfl (by exact Al.symm) rfl rfl ?_)|refine Ap (by kernel_rfl) ?_|(refine gD ?_;first|refine Ah rfl ?_)|fail)
      rw[ha];refine An (Bv (l:=[(4,.c (.ptr 4 0)),(5,AD (pks [q.Af.getD (q.Af.length-1) default])),(6,AI 0)]) (b:=[(4,.box (Qu.cs ⟨q.Bk,Bp (q.Af.take (q.Af.length-1)) ((q.Af.take (q.Af.length-1))).length p⟩))]) (fun n=>n) [71001] hS ?_ ?_ rfl (by rfl)) (Br Ab rfl rfl rfl rfl rfl rfl rfl rfl rfl)
      all_goals repeat'(first|exact tt0|refine⟨⟨_,rfl,?_⟩,?_⟩|exact .c .d|exact .c (.ptr rfl)|refine .box ?_|exact .nil|refine .cons ?_ ?_|exact .d|(refine .Ck (by(simp;done)) rfl ?_ (fun _=>rfl);((try dsimp only);first|(simp only[lns]<;>omega));done)|fail)
      all_goals(simp[Bp])
     |some i=>
      rw[ht] at hat2;have h':FnS Tryz.prog 210 [AD (pks (q.Af.take (q.Af.length-1))),.clo (BY fun x=>decide (p.prio<x.prio))] [] (AI (i:Nat)) []:=hat2;have ha:atP (q.Af.take (q.Af.length-1)) p.prio=i:=by rw[atP,ht];rfl
      obtain⟨hi,_,_⟩:=BJ ht
      repeat'(first|refine sB ?_|refine Aj rfl (by exact tt0) ?_|(refine gC ?_;first|refine AJ [3,8] (h') (gk rfl) rfl (by(repeat'(first|exact .nil|refine .cons ?_ ?_|exact(Jl (by simp) rfl)|exact(.of0 (.c (A9 (by simp) rfl rfl (fun _=>rfl))))))<;>fail) (by rfl) rfl (by rfl) rfl (by rfl) rfl ?_|refine Cw [70] (HV (q.Af.take (q.Af.length-1)) i p (by omega) (Nat.le_of_lt hi)) (gk rfl) rfl rfl Ai rfl (by(repeat'(first|exact .nil|refine .cons ?_ ?_|exact .of0 (.c .d)|exact .of0 (.c (H4 (by decide) rfl rfl (by repeat'(first|exact tt0|refine⟨?_,?_⟩|rfl))))))<;>fail) rfl (by exact KX (fun _=>rfl)) rfl (by(simp only[AZ,wfL,AH,wfs];rfl)) rfl (by exact B2) rfl ?_)|refine Ap (by kernel_rfl) ?_|(refine gD ?_;first|refine Ag rfl ?_)|fail)
      rw[ha];refine An (Bv (l:=[(4,.c (.ptr 4 0)),(5,AD (pks [q.Af.getD (q.Af.length-1) default])),(6,AI 0)]) (b:=[(4,.box (Qu.cs ⟨q.Bk,Bp (q.Af.take (q.Af.length-1)) i p⟩))]) (fun n=>n) [71001] hS ?_ ?_ rfl (by rfl)) (Br Ab rfl rfl rfl rfl rfl rfl rfl rfl rfl)
      all_goals repeat'(first|exact tt0|refine⟨⟨_,rfl,?_⟩,?_⟩|exact .c .d|exact .c (.ptr rfl)|refine .box ?_|exact .nil|refine .cons ?_ ?_|exact .d|(refine .Ck (by(simp;done)) rfl ?_ (fun _=>rfl);((try dsimp only);first|(simp only[lns]<;>omega));done)|fail)
      all_goals(simp only[Bp,Aeh,List.length_cons,Aem,Aep];simp only[Aem] at hi;omega)
   ·rw[AeS (by rw[<-GC];simp;omega),AeS (by omega)] at e;rw[e];refine VC.le (σ':=AS [(2,.c (.ptr 2 0)),(3,.c (.ptr 3 0)),(4,.c (.ptr 4 0)),(8,.c (.row 8 q.Af.length)),(9,AD (pks []))] [(2,.box q.cs),(3,.box p.cs),(4,.box noQ.cs),(8,.row 120 6 (rowOf Pk.enc q.Af))]) ?_ ?_
    ·refine Am (fun n=>if n=8 then 30007 else n) ?_ ?_ rfl (by(simp only[wfL,wfs];rfl))
     all_goals repeat'(first|exact tt0|refine⟨⟨_,rfl,?_⟩,?_⟩|exact .c (.ptr rfl)|exact .c (.row rfl rfl)|exact .c .nil|exact .Bh rfl rfl|exact .Bc rfl Ai|refine .box ?_|exact .nil|refine .cons ?_ ?_|exact .d|fail)
    ·cases ht:Fl q.Af (fun x=>decide (p.prio<x.prio)) with
     |none=>
      rw[ht] at hat;have h':FnS Tryz.prog 210 [AD (pks q.Af),.clo (BY fun x=>decide (p.prio<x.prio))] [] (AI (-1)) []:=hat;have ha:atP q.Af p.prio=(q.Af).length:=by rw[atP,ht];rfl
      repeat'(first|refine sB ?_|refine Aj rfl (by exact tt0) ?_|(refine gC ?_;first|refine AJ [3,8] (h') (gk rfl) rfl (by(repeat'(first|exact .nil|refine .cons ?_ ?_|exact(Jl (by simp) rfl)|exact(.of0 (.c (A9 (by simp) rfl rfl (fun _=>rfl))))))<;>fail) (by rfl) rfl (by rfl) rfl (by rfl) rfl ?_|refine Cw [70] (HV q.Af (q.Af).length p (by omega) (AeU _)) (gk rfl) rfl rfl Ai rfl (by(repeat'(first|exact .nil|refine .cons ?_ ?_|exact .of0 (.c .d)|exact .of0 (.c (H4 (by decide) rfl rfl (by repeat'(first|exact tt0|refine⟨?_,?_⟩|rfl))))))<;>fail) rfl (by exact KX (fun _=>rfl)) rfl (by(simp only[AZ,wfL,AH,wfs];rfl)) rfl (by exact B2) rfl ?_)|(refine gE ?_;first|refine BA (gk rfl) rfl rfl (by exact Al.symm) rfl rfl ?_)|refine Ap (by kernel_rfl) ?_|(refine gD ?_;first|refine Ah rfl ?_)|fail)
      rw[ha];refine An (Bv (l:=[(4,.c (.ptr 4 0)),(5,AD (pks [])),(6,AI 0)]) (b:=[(4,.box (Qu.cs ⟨q.Bk,Bp q.Af (q.Af).length p⟩))]) (fun n=>n) [71001] hS ?_ ?_ rfl (by rfl)) (Br Ab rfl rfl rfl rfl rfl rfl rfl rfl rfl)
      all_goals repeat'(first|exact tt0|refine⟨⟨_,rfl,?_⟩,?_⟩|exact .c .d|exact .c (.ptr rfl)|refine .box ?_|exact .nil|refine .cons ?_ ?_|exact .d|(refine .Ck (by(simp;done)) rfl ?_ (fun _=>rfl);((try dsimp only);first|(simp only[lns]<;>omega));done)|fail)
      all_goals(simp[Bp])
     |some i=>
      rw[ht] at hat;have h':FnS Tryz.prog 210 [AD (pks q.Af),.clo (BY fun x=>decide (p.prio<x.prio))] [] (AI (i:Nat)) []:=hat;have ha:atP q.Af p.prio=i:=by rw[atP,ht];rfl
      obtain⟨hi,_,_⟩:=BJ ht
      repeat'(first|refine sB ?_|refine Aj rfl (by exact tt0) ?_|(refine gC ?_;first|refine AJ [3,8] (h') (gk rfl) rfl (by(repeat'(first|exact .nil|refine .cons ?_ ?_|exact(Jl (by simp) rfl)|exact(.of0 (.c (A9 (by simp) rfl rfl (fun _=>rfl))))))<;>fail) (by rfl) rfl (by rfl) rfl (by rfl) rfl ?_|refine Cw [70] (HV q.Af i p (by omega) (Nat.le_of_lt hi)) (gk rfl) rfl rfl Ai rfl (by(repeat'(first|exact .nil|refine .cons ?_ ?_|exact .of0 (.c .d)|exact .of0 (.c (H4 (by decide) rfl rfl (by repeat'(first|exact tt0|refine⟨?_,?_⟩|rfl))))))<;>fail) rfl (by exact KX (fun _=>rfl)) rfl (by(simp only[AZ,wfL,AH,wfs];rfl)) rfl (by exact B2) rfl ?_)|refine Ap (by kernel_rfl) ?_|(refine gD ?_;first|refine Ag rfl ?_)|fail)
      rw[ha];refine An (Bv (l:=[(4,.c (.ptr 4 0)),(5,AD (pks [])),(6,AI 0)]) (b:=[(4,.box (Qu.cs ⟨q.Bk,Bp q.Af i p⟩))]) (fun n=>n) [71001] hS ?_ ?_ rfl (by rfl)) (Br Ab rfl rfl rfl rfl rfl rfl rfl rfl rfl)
      all_goals repeat'(first|exact tt0|refine⟨⟨_,rfl,?_⟩,?_⟩|exact .c .d|exact .c (.ptr rfl)|refine .box ?_|exact .nil|refine .cons ?_ ?_|exact .d|(refine .Ck (by(simp;done)) rfl ?_ (fun _=>rfl);((try dsimp only);first|(simp only[lns]<;>omega));done)|fail)
      all_goals(simp only[Bp,Aeh,List.length_cons,Aem,Aep];simp only[Aem] at hi;omega)
  ·have e:E7 q p=(noQ,[],Fm p):=by rw[E7,AeS (by omega),AeT hf]
   have hd:decide (Fm p≠0)=true:=by simp[hf]
   rw[e]
   repeat'(first|refine sB ?_|refine Aj rfl (by exact tt0) ?_|(refine gC ?_;first|refine Aa (hck) (gk rfl) rfl rfl rfl (by rfl) rfl (by rfl) rfl ?_|refine Aa (hfm) (gk rfl) rfl rfl rfl (by rfl) rfl (by rfl) rfl ?_)|(refine gD ?_;first|refine Ah rfl ?_|refine Ag rfl ?_|refine At rfl (by assumption) ?_)|fail)
   refine An (Am (l:=[(4,.c (.ptr 4 0)),(5,AD (pks [])),(6,AI (Fm p))]) (b:=[(4,.box noQ.cs)]) (fun n=>n) ?_ ?_ rfl (by rfl)) (Br Ab rfl rfl rfl rfl rfl rfl rfl rfl rfl)
   all_goals repeat'(first|exact tt0|refine⟨⟨_,rfl,?_⟩,?_⟩|exact .c .d|exact .c (.ptr rfl)|exact .c .nil|refine .box ?_|exact .nil|refine .cons ?_ ?_|exact .d|fail)
 ·have e:E7 q p=(noQ,[],1):=by rw[E7,AeT hc]
  have hd:decide (Bq q≠0)=true:=by simp[hc]
  rw[e]
  repeat'(first|refine sB ?_|refine Aj rfl (by exact tt0) ?_|(refine gC ?_;first|refine Aa (hck) (gk rfl) rfl rfl rfl (by rfl) rfl (by rfl) rfl ?_)|(refine gD ?_;first|refine Ah rfl ?_|refine At rfl (by assumption) ?_)|fail)
  refine An (Am (l:=[(4,.c (.ptr 4 0)),(5,AD (pks [])),(6,AI 1)]) (b:=[(4,.box noQ.cs)]) (fun n=>n) ?_ ?_ rfl (by rfl)) (Br Ab rfl rfl rfl rfl rfl rfl rfl rfl rfl)
  all_goals repeat'(first|exact tt0|refine⟨⟨_,rfl,?_⟩,?_⟩|exact .c .d|exact .c (.ptr rfl)|exact .c .nil|refine .box ?_|exact .nil|refine .cons ?_ ?_|exact .d|fail)

def noP:Pk:=⟨0,0,0,0,0,⟨#[]⟩⟩
def DJ (q:Qu) (to:Int):Pk×Bool:=if Bq q≠0 then(noP,false) else match PQ q.Af to with
 |none=>(noP,false)
 |some i=>(q.Af.getD i default,true)
theorem SJ {q:Qu} {to:Int} (h:¬Bq q=0):DJ q to=(noP,false):=by rw[DJ,AeT h]
theorem Hu {q:Qu} {to:Int} (h:Bq q=0) (hf:PQ q.Af to=none):DJ q to=(noP,false):=by rw[DJ,AeS (by omega),hf]
theorem Ht {q:Qu} {to:Int} {i:Nat} (h:Bq q=0) (hf:PQ q.Af to=some i):DJ q to=(q.Af.getD i default,true):=by rw[DJ,AeS (by omega),hf]
set_option maxHeartbeats 1000000 in
theorem LJ (q:Qu) (to:Int):FnS Tryz.prog 284 [quA q,AI to] [] (.tup [pkA (DJ q to).1,AB (DJ q to).2]) []:=by
 have hck:=EK q;have hfi:=SI q.Af to;refine fb Tryz.func284 (by kernel_rfl) rfl Tryz.ntmps284 Tryz.results284 rfl rfl rfl rfl fun E hS=>?_
 refine AK ?_;by_cases hc:Bq q=0
 ·rw[hc] at hck;have hl:=CJ hc;cases hf:PQ q.Af to with
  |none=>
   rw[hf] at hfi;have hfi':FnS Tryz.prog 307 [AD (pks q.Af),AI to] [] (AI (-1)) []:=hfi;rw[Hu hc hf]
   repeat'(first|refine sB ?_|refine Aj rfl (by exact tt0) ?_|(refine gC ?_;first|refine Aa (hck) (gk rfl) rfl rfl rfl (by rfl) rfl (by rfl) rfl ?_|refine Aa (hfi') (gk rfl) rfl rfl rfl (by rfl) rfl (by rfl) rfl ?_)|(refine gD ?_;first|refine Ag rfl ?_)|fail)
   refine An (Am (l:=[(4,.c (.ptr 4 0)),(5,AB false)]) (b:=[(4,.box noP.cs)]) (fun n=>n) ?_ ?_ rfl (by rfl)) (AL Ab rfl rfl rfl rfl rfl rfl rfl)
   all_goals repeat'(first|exact tt0|refine⟨⟨_,rfl,?_⟩,?_⟩|exact .c .d|exact .c (.ptr rfl)|exact .Bh rfl rfl|fail)
  |some i=>
   rw[hf] at hfi;have hfi':FnS Tryz.prog 307 [AD (pks q.Af),AI to] [] (AI (i:Nat)) []:=hfi;obtain⟨hi,_,_⟩:=BJ hf;rw[Ht hc hf]
   repeat'(first|refine sB ?_|refine Aj rfl (by exact tt0) ?_|(refine gC ?_;first|refine Aa (hck) (gk rfl) rfl rfl rfl (by rfl) rfl (by rfl) rfl ?_|refine Aa (hfi') (gk rfl) rfl rfl rfl (by rfl) rfl (by rfl) rfl ?_)|(refine gI ?_;first|refine Aq (gk rfl) rfl rfl rfl rfl rfl (by omega) rfl ?_)|(refine gD ?_;first|refine Ah rfl ?_|refine Ag rfl ?_)|fail)
   all_goals first
    |(exfalso;omega)
    |skip
   refine An (Am (l:=[(4,.c (.ptr 4 0)),(5,AB true)]) (b:=[(4,.box (q.Af.getD i default).cs)]) (fun n=>n) ?_ ?_ rfl (by rfl)) (AL Ab rfl rfl rfl rfl rfl rfl rfl)
   all_goals repeat'(first|exact tt0|refine⟨⟨_,rfl,?_⟩,?_⟩|exact .c .d|exact .c (.ptr rfl)|exact .Bh rfl rfl|fail)
 ·rw[SJ hc];have hd:decide (Bq q≠0)=true:=by simp[hc]
  repeat'(first|refine sB ?_|refine Aj rfl (by exact tt0) ?_|(refine gC ?_;first|refine Aa (hck) (gk rfl) rfl rfl rfl (by rfl) rfl (by rfl) rfl ?_)|(refine gD ?_;first|refine Ah rfl ?_|refine At rfl (by assumption) ?_)|fail)
  refine An (Am (l:=[(4,.c (.ptr 4 0)),(5,AB false)]) (b:=[(4,.box noP.cs)]) (fun n=>n) ?_ ?_ rfl (by rfl)) (AL Ab rfl rfl rfl rfl rfl rfl rfl)
  all_goals repeat'(first|exact tt0|refine⟨⟨_,rfl,?_⟩,?_⟩|exact .c .d|exact .c (.ptr rfl)|exact .Bh rfl rfl|fail)
theorem Ms {n:Nat} {f:Nat->Int} (h:Dc n f=0) {i:Nat} (hi:i<n):f i=0:=by
 unfold Dc at h;cases hf:(List.range n).find? (fun i=>f i != 0) with
 |none=>have:=List.find?_eq_none.1 hf i (AeL.2 hi);simpa using this
 |some k=>
  rw[hf] at h;have:=List.find?_some hf;simp at this;exact absurd h this
theorem SX {q:Qu} (h:Bq q=0) {k:Nat} (hk:k<q.Af.length):Ix q.Af k=0:=by
 obtain⟨h1,h2,h3⟩:=CJ h;unfold Bq at h;rw[AeS (by simp[inI];omega),AeS (by omega)] at h;exact Ms h hk
theorem Eb {q:Qu} (h:Bq q=0) {k:Nat} (hk:k<q.Af.length):
  Fm (q.Af.getD k default)=0/\(∀i,i<k->(q.Af.getD i default).id≠(q.Af.getD k default).id)/\(0<k->(q.Af.getD (k-1) default).prio<=(q.Af.getD k default).prio):=by
 have:=SX h hk;unfold Ix at this
 split at this
 ·rename_i h1;exact absurd this h1
 ·rename_i h1
  split at this
  ·cases this
  ·rename_i h2
   split at this
   ·cases this
   ·rename_i h3;refine⟨by omega,fun i hi e=>h2 ?_,fun h0=>by omega⟩;rw[Aev];refine⟨q.Af.getD i default,?_,Aed e⟩;rw[Aec,Ael (by omega)];exact List.mem_take_iff_getElem.2 ⟨i,by omega,rfl⟩
theorem OB {q:Qu} (h:Bq q=0) {i j:Nat} (hi:i<q.Af.length) (hj:j<q.Af.length) (hij:i≠j):(q.Af.getD i default).id≠(q.Af.getD j default).id:=by
 rcases Nat.lt_or_gt_of_ne hij with hlt|hlt
 ·exact(Eb h hj).2.1 i hlt
 ·exact fun e=>(Eb h hi).2.1 j hlt e.symm
def I3 (q:Qu) (id:Int):Qu×Pk×Int:=if Bq q≠0 then(noQ,noP,1) else match N8 q.Af id with
 |none=>(noQ,noP,7)
 |some i=>(⟨q.Bk,q.Af.eraseIdx i⟩,q.Af.getD i default,0)
theorem Tt {q:Qu} {to:Int} (h:¬Bq q=0):I3 q to=(noQ,noP,1):=by rw[I3,AeT h]
theorem RJ {q:Qu} {to:Int} (h:Bq q=0) (hf:N8 q.Af to=none):I3 q to=(noQ,noP,7):=by rw[I3,AeS (by omega),hf]
theorem K5 {q:Qu} {to:Int} {i:Nat} (h:Bq q=0) (hf:N8 q.Af to=some i):I3 q to=(⟨q.Bk,q.Af.eraseIdx i⟩,q.Af.getD i default,0):=by rw[I3,AeS (by omega),hf]
set_option maxHeartbeats 1000000 in
theorem Ts (q:Qu) (id:Int):FnS Tryz.prog 290 [quA q,AI id] [] (.tup [quA (I3 q id).1,pkA (I3 q id).2.1,AI (I3 q id).2.2]) []:=by
 have hck:=EK q;have hix:=JW q id;refine fb Tryz.func290 (by kernel_rfl) rfl Tryz.ntmps290 Tryz.results290 rfl rfl rfl rfl fun E hS=>?_
 refine AK ?_;by_cases hc:Bq q=0
 ·rw[hc] at hck;have hl:=CJ hc;cases hf:N8 q.Af id with
  |none=>
   rw[hf] at hix;have hix':FnS Tryz.prog 271 [quA q,AI id] [] (AI (-1)) []:=hix;rw[RJ hc hf]
   repeat'(first|refine sB ?_|refine Aj rfl (by exact tt0) ?_|(refine gC ?_;first|refine Aa (hck) (gk rfl) rfl rfl rfl (by rfl) rfl (by rfl) rfl ?_|refine Aa (hix') (gk rfl) rfl rfl rfl (by rfl) rfl (by rfl) rfl ?_)|(refine gD ?_;first|refine Ah rfl ?_|refine Ag rfl ?_)|fail)
   refine An (Am (l:=[(4,.c (.ptr 4 0)),(5,.c (.ptr 5 0)),(6,AI 7)]) (b:=[(4,.box noQ.cs),(5,.box noP.cs)]) (fun n=>n) ?_ ?_ rfl (by rfl)) (A8 Ab rfl rfl rfl rfl rfl rfl rfl rfl rfl rfl rfl rfl)
   all_goals repeat'(first|exact tt0|refine⟨⟨_,rfl,?_⟩,?_⟩|exact .c .d|exact .c (.ptr rfl)|exact .Bh rfl rfl|refine .box ?_|exact .nil|refine .cons ?_ ?_|exact .d|fail)
  |some i=>
   rw[hf] at hix;have hix':FnS Tryz.prog 271 [quA q,AI id] [] (AI (i:Nat)) []:=hix;obtain⟨hi,_,_⟩:=BJ hf;rw[K5 hc hf]
   repeat'(first|refine sB ?_|refine Aj rfl (by first|exact tt0|omega) ?_|(refine gC ?_;first|refine Aa (hck) (gk rfl) rfl rfl rfl (by rfl) rfl (by rfl) rfl ?_|refine Aa (hix') (gk rfl) rfl rfl rfl (by rfl) rfl (by rfl) rfl ?_|refine Aa (GQ q.Af (by omega)) (gk rfl) rfl rfl rfl (by(simp only[AZ,wfL,AH,wfs];rfl)) rfl (by exact B2) rfl ?_|refine Cw [] (Vg q.Af i hi (by omega)) (gk rfl) rfl rfl Ai rfl (by(repeat'(first|exact .nil|refine .cons ?_ ?_|exact .of0 (.c .d)))<;>fail) rfl (by rfl) rfl (by(simp only[AZ,wfL,AH,wfs];rfl)) rfl (by exact B2) rfl ?_)|(refine gI ?_;first|refine Aq (gk rfl) rfl rfl rfl rfl rfl (by omega) rfl ?_)|refine Ap (by kernel_rfl) ?_|(refine gD ?_;first|refine Ag rfl ?_)|fail)
   all_goals first
    |(exfalso;omega)
    |skip
   refine An (Bv (l:=[(4,.c (.ptr 4 0)),(5,.c (.ptr 5 0)),(6,AI 0)]) (b:=[(4,.box (Qu.cs ⟨q.Bk,q.Af.eraseIdx i⟩)),(5,.box (q.Af.getD i default).cs)]) (fun n=>n) [28000] hS ?_ ?_ rfl (by rfl)) (A8 Ab rfl rfl rfl rfl rfl rfl rfl rfl rfl rfl rfl rfl)
   all_goals repeat'(first|exact tt0|refine⟨⟨_,rfl,?_⟩,?_⟩|exact .c .d|exact .c (.ptr rfl)|exact .Bh rfl rfl|refine .box ?_|exact .nil|refine .cons ?_ ?_|exact .d|fail)
   exact .Ck (by simp) rfl (List.length_eraseIdx_of_lt hi).symm (fun _=>rfl)
 ·rw[Tt hc];have hd:decide (Bq q≠0)=true:=by simp[hc]
  repeat'(first|refine sB ?_|refine Aj rfl (by exact tt0) ?_|(refine gC ?_;first|refine Aa (hck) (gk rfl) rfl rfl rfl (by rfl) rfl (by rfl) rfl ?_)|(refine gD ?_;first|refine Ah rfl ?_|refine At rfl (by assumption) ?_)|fail)
  refine An (Am (l:=[(4,.c (.ptr 4 0)),(5,.c (.ptr 5 0)),(6,AI 1)]) (b:=[(4,.box noQ.cs),(5,.box noP.cs)]) (fun n=>n) ?_ ?_ rfl (by rfl)) (A8 Ab rfl rfl rfl rfl rfl rfl rfl rfl rfl rfl rfl rfl)
  all_goals repeat'(first|exact tt0|refine⟨⟨_,rfl,?_⟩,?_⟩|exact .c .d|exact .c (.ptr rfl)|exact .Bh rfl rfl|refine .box ?_|exact .nil|refine .cons ?_ ?_|exact .d|fail)
theorem U8 (x:Pk) (t:Int):FnS Tryz.prog 218 [pkA x,.ep (fun _=>.int .i64 t) 1] [] (AB (Gb x t)) []:=by
 refine fb Tryz.func218 (by kernel_rfl) rfl Tryz.ntmps218 Tryz.results218 rfl rfl rfl rfl fun E hS=>?_
 repeat'(first|refine sB ?_|refine Aj rfl (by exact tt0) ?_|(refine gC ?_;first|refine Aa (K6 _ _) (gk rfl) rfl rfl rfl (by rfl) rfl (by rfl) rfl ?_)|fail)
 all_goals exact As Ab rfl rfl
theorem Xd {σ:St} {t:Int} {n1:Nat} {L:List Nat} (hL:n1∈L) (h1:σ (.b n1)=some (.k (.box [.d (.int .i64 t)]))):AR Tryz.prog σ L (.fnc 218 [.ptr n1 0]) (.clo (BY fun x=>Gb x t)):=
 .fnc (eps:=[.ep (fun _=>.int .i64 t) 1]) (.cons (.ptr hL h1 (fun j hj=>by
  have:j=0:=by omega
  subst this;rfl)) .nil) (enters_of Tryz.func218 (by kernel_rfl) rfl)
  (by rintro _ _ ⟨x,rfl,rfl⟩;exact⟨rfl,U8 x t⟩)
theorem U7 (x:Pk) (t:Int):FnS Tryz.prog 220 [pkA x,.ep (fun _=>.int .i64 t) 1] [] (AB (!Gb x t)) []:=by
 refine fb Tryz.func220 (by kernel_rfl) rfl Tryz.ntmps220 Tryz.results220 rfl rfl rfl rfl fun E hS=>?_
 repeat'(first|refine sB ?_|refine Aj rfl (by exact tt0) ?_|(refine gC ?_;first|refine Aa (K6 _ _) (gk rfl) rfl rfl rfl (by rfl) rfl (by rfl) rfl ?_)|fail)
 all_goals exact As Ab rfl rfl
theorem Xc {σ:St} {t:Int} {n1:Nat} {L:List Nat} (hL:n1∈L) (h1:σ (.b n1)=some (.k (.box [.d (.int .i64 t)]))):AR Tryz.prog σ L (.fnc 220 [.ptr n1 0]) (.clo (BY fun x=>!Gb x t)):=
 .fnc (eps:=[.ep (fun _=>.int .i64 t) 1]) (.cons (.ptr hL h1 (fun j hj=>by
  have:j=0:=by omega
  subst this;rfl)) .nil) (enters_of Tryz.func220 (by kernel_rfl) rfl)
  (by rintro _ _ ⟨x,rfl,rfl⟩;exact⟨rfl,U7 x t⟩)
def Q6 (l:List Pk) (slot:Int):List Pk:=l.filter fun x=>!Gb x slot
def TD (l:List Pk) (slot:Int):List Pk:=l.filter fun x=>Gb x slot
def CS (q:Qu) (slot:Int):Qu×List Pk:=if Bq q≠0 then(q,[]) else(⟨q.Bk,Q6 q.Af slot⟩,TD q.Af slot)
set_option maxHeartbeats 1000000 in
theorem P7 (q:Qu) (slot:Int):FnS Tryz.prog 163 [quA q,AI slot] [] (.tup [quA (CS q slot).1,AD (pks (CS q slot).2)]) []:=by
 have hck:=EK q;refine fb Tryz.func163 (by kernel_rfl) rfl Tryz.ntmps163 Tryz.results163 rfl rfl rfl rfl fun E hS=>?_
 refine AK ?_;by_cases hc:Bq q=0
 ·rw[hc] at hck;have hl:=CJ hc;have hd1:=X4 q.Af (fun x=>Gb x slot) (by omega);have hd2:=X4 q.Af (fun x=>!Gb x slot) (by omega);have e2:(q.Af.filter fun x=>!!Gb x slot)=TD q.Af slot:=by simp only[Bool.not_not];rfl
  rw[e2] at hd2;rw[CS,AeS (by omega)]
  repeat'(first|refine sB ?_|refine Aj rfl (by exact tt0) ?_|(refine gC ?_;first|refine Aa (hck) (gk rfl) rfl rfl rfl (by rfl) rfl (by rfl) rfl ?_|refine Aa (GQ q.Af (by omega)) (gk rfl) rfl rfl rfl (by(simp only[AZ,wfL,AH,wfs];rfl)) rfl (by exact B2) rfl ?_|refine Cw [3] (hd1) (gk rfl) rfl rfl Ai rfl (.cons (Xd (Aer.2 rfl) rfl) .nil) rfl (by exact KX (fun _=>rfl)) rfl (by(simp only[AZ,wfL,AH,wfs];rfl)) rfl (by exact B2) rfl ?_|refine Cw [3] (hd2) (gk rfl) rfl rfl Ai rfl (.cons (Xc (Aer.2 rfl) rfl) .nil) rfl (by exact KX (fun _=>rfl)) rfl (by(simp only[AZ,wfL,AH,wfs];rfl)) rfl (by exact B2) rfl ?_)|refine Ap (by kernel_rfl) ?_|(refine gD ?_;first|refine Ag rfl ?_)|fail)
  refine An (Bv (l:=[(4,.c (.ptr 4 0)),(5,AD (pks (TD q.Af slot)))]) (b:=[(4,.box (Qu.cs ⟨q.Bk,Q6 q.Af slot⟩))]) (fun n=>n) [20000,26000] hS ?_ ?_ rfl (by rfl)) (AL Ab rfl rfl rfl rfl rfl rfl rfl)
  all_goals repeat'(first|exact tt0|refine⟨⟨_,rfl,?_⟩,?_⟩|exact .c (.ptr rfl)|exact .c (.Ck (by(simp;done)) rfl rfl (fun _=>rfl))|refine .box ?_|exact .nil|refine .cons ?_ ?_|exact .d|exact .Ck (by(simp;done)) rfl rfl (fun _=>rfl)|fail)
 ·rw[CS,AeT hc];have hd:decide (Bq q≠0)=true:=by simp[hc]
  repeat'(first|refine sB ?_|refine Aj rfl (by exact tt0) ?_|(refine gC ?_;first|refine Aa (hck) (gk rfl) rfl rfl rfl (by rfl) rfl (by rfl) rfl ?_)|(refine gD ?_;first|refine Ah rfl ?_|refine At rfl (by assumption) ?_)|fail)
  refine An (Am (l:=[(4,.c (.ptr 4 0)),(5,AD (pks []))]) (b:=[(4,.box q.cs)]) (fun n=>n) ?_ ?_ rfl (by rfl)) (AL Ab rfl rfl rfl rfl rfl rfl rfl)
  all_goals repeat'(first|exact tt0|refine⟨⟨_,rfl,?_⟩,?_⟩|exact .c (.ptr rfl)|exact .c .nil|exact .Bh rfl rfl|fail)
def Ze (a b:Qu):Bool:=decide (a.Bk=b.Bk/\a.Af=b.Af)
theorem Ge (a b:Qu):FnS Tryz.prog 83 [quA a,quA b] [] (AB (Ze a b)) []:=by
 refine fb Tryz.func83 (by kernel_rfl) rfl Tryz.ntmps83 Tryz.results83 rfl rfl rfl rfl fun E hS=>?_
 repeat'(first|refine sB ?_|refine Aj rfl (by exact tt0) ?_|(refine gC ?_;first|refine Aa (Nq _ _) (gk rfl) rfl rfl rfl (by rfl) rfl (by rfl) rfl ?_)|(refine Ax rfl ?_ ?_<;>intro h<;>have hq:=h<;>(try simp only[hqs] at hq))|fail)
 all_goals(refine As Ab rfl ?_;unfold Ze;simp_all)
def AbJ (q:Qu):Bool:=decide (q.Af.length<=70)&&q.Af.all fun x=>decide (x.data.size<=200)
theorem Mv (q:Qu):FnS Tryz.prog 61 [quA q] [] (AB (AbJ q)) []:=by
 refine fb Tryz.func61 (by kernel_rfl) rfl Tryz.ntmps61 Tryz.results61 rfl rfl rfl rfl fun E hS=>?_
 repeat'(first|refine sC ?_|refine Aj rfl (by exact tt0) ?_|(refine gD ?_;first|(refine Ay rfl ?_ ?_<;>intro h<;>have hq:=h<;>(try simp only[hqs] at hq)))|fail)
 ·refine As Ab rfl ?_;rw[AbJ,Aee (by omega)];rfl
 ·refine AA (ι:=Nat) (fun k=>AS [(1,.c (.ptr 1 0)),(3,AI k)] [(1,.box q.cs)]) (fun k=>k<=q.Af.length/\∀i,i<k->(q.Af.getD i default).data.size<=200) (fun k=>q.Af.length-k) 0 ⟨AeV _,fun i hi=>absurd hi (AeQ _)⟩ ?_ ?_
  ·refine lg ?_ ?_ rfl (by rfl)
   all_goals repeat'(first|exact tt0|refine⟨⟨_,rfl,?_⟩,?_⟩|exact .c .d|exact .c (.ptr rfl)|exact .Bh rfl rfl|fail)
  ·intro k hk
   repeat'(first|refine sC ?_|refine Aj rfl (by first|exact tt0|omega) ?_|(refine gI ?_;first|refine Aq (gk rfl) rfl rfl rfl rfl rfl (by omega) rfl ?_)|(refine gD ?_;first|(refine Ay rfl ?_ ?_<;>intro h<;>have hq:=h<;>(try simp only[hqs] at hq)))|fail)
   ·refine As Ab rfl ?_;have:(q.Af.all fun x=>decide (x.data.size<=200))=false:=by
     rw[List.all_eq_false];exact⟨_,Cv (l:=q.Af) (i:=k) (by omega),by rw[Aef];omega⟩
    rw[AbJ,this,Bool.and_false]
   ·refine⟨k+1,⟨by omega,fun i hi=>?_⟩,by omega,?_⟩
    ·by_cases hik:i<k
     ·exact hk.2 i hik
     ·have:i=k:=by omega
      subst this;omega
    ·refine lg ?_ ?_ rfl (by rfl)
     all_goals repeat'(first|exact tt0|refine⟨⟨_,rfl,?_⟩,?_⟩|exact .c .d|exact .c (.ptr rfl)|exact .Bh rfl rfl|fail)
   ·refine As Ab rfl ?_;have:(q.Af.all fun x=>decide (x.data.size<=200))=true:=by
     rw[Aeu];intro x hx;obtain⟨i,hi,rfl⟩:=DY hx;exact Aed (hk.2 i (by omega))
    rw[AbJ,this,Aed (by omega)];rfl
end Go.Proofs.Q
end
