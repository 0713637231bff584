/-
  What functions of the program hand back, and plain laws on that. No condition.
-/
import Derived.Test.YtdlcbilgemnomaaGreatSxLibC
import Derived.Test.YtdlcbilgemnomaaGreatSxT30
import Derived.RangeFuncNested
import Derived.RangeFuncBound
import Derived.RangeFuncCalls
import Derived.RangeFuncLeaves
import Derived.RangeFuncBox
import Derived.Maps.AppendAt
import Derived.Shelf.Abstract
import Derived.Shelf.RegionOpen
import Derived.OwnWalkIn
import Derived.TacticsInMore
import Derived.LoopNIn
import Derived.LoopIn
import Derived.Test.YtdlcbilgemnomaaGreatSxLibB
set_option linter.unusedSimpArgs false
set_option linter.unusedVariables false
section
namespace Go.Proofs.M
open Go Go.Sx Go.RowKit Go.Shelf
attribute [local go_sem] Oper.semAt_some
theorem AeS:(Tryz.prog.info? 136).map (fun i=>(i.zero,i.size,i.bytes))=some (some (.pointer none),1,8):=by kernel_rfl
theorem KS {own:TypeId->Prop} (h133:¬own 133) (h136:¬own 136) {g:Nat} {lb:Array Value} (eg:∀args w,(callFunc g args).run Tryz.prog w=.ok (.enter g args) w) {S:List Nat->Prop} {N:Nat} (hN:N<=1000000) {w:World}
  (hseq:Aef own Tryz.prog g lb (fun x:Nat=>#[pvo x 0]) S N w):
  Calls Tryz.prog 173 #[.slice none 0 0,.func (.func g) #[] lb] w fun e w'=>∃v xs,e=.returned v/\S xs/\w'.ownsRow w.heap.size 136 1 v xs.length (xs.map fun x=>pvo x 0)/\(v=.slice none 0 0↔xs=[])/\Below w.heap.size w w':=by
 refine(callsIn_wide (n:=3)).1 ?_;refine callsIn_of_wp_marks Tryz.func173 rfl trivial ?_ rfl;simp only[Tryz.ntmps173,List.size_toArray,List.length_cons,List.length_nil,Nat.reduceAdd,Nat.reduceSub,Array.replicate_succ,Array.replicate_zero,List.push_toArray,List.append_toArray,List.nil_append,List.cons_append]
 gi_wp2
 have hB:=Boxed.new w 133 (.slice none 0 0);have ht0:Below w.heap.size w (w.alloc (.cells #[.slice none 0 0] 133)):=(Below.refl _ w).alloc (Ag0 _) _;refine Jg (gf:=g) (lb:=lb) rfl eg hseq ht0 (fun _=>rfl)
  (fun pre W=>(∃v,Boxed W w.heap.size 133 v/\W.ownsRow w.heap.size 136 1 v pre.length (pre.map fun x=>pvo x 0)/\(v=.slice none 0 0↔pre=[]))/\Below w.heap.size w W)
  ?hI ?h0 (fun x=>{tmps:=#[.slice none 0 0,.func (.func g) #[] lb,.pointer (some ⟨w.heap.size,0,none⟩),undef,.slice none 0 0,pvo x 0,.func (.func g) #[] lb,pvo x 0,undef,undef,undef,undef,undef],defers:=[]}) ?assign ?body ?done
 case hI=>
  rintro s W0 W1 ⟨⟨v,hv,hrow,hnil⟩,hbel⟩ ht;have hne:∀b us T fz,W0.heap[b]?=some (Obj.cells us T fz)->¬own T->W1.heap[b]?=some (Obj.cells us T fz):=fun b us T fz hb ho=>ht.block b _ hb fun h=>by
   rcases h.2 with h|⟨_,_,_,e,h⟩
   ·cases h
   ·cases e;exact ho h
  refine⟨⟨v,hne _ _ _ _ hv h133,⟨hrow.1,?_⟩,hnil⟩,hbel.trans (ht.below hbel.size fun b o h=>by have:=h.1;simp at this;omega)⟩;rcases hrow.2 with h|⟨g2,cap2,cur2,e0,hgB,hgb,hr⟩
  ·exact .inl h
  ·exact .inr ⟨g2,cap2,cur2,e0,hgB,hne _ _ _ _ hgb h136,hr⟩
 case h0=>exact⟨⟨_,hB,World.ownsRow_nil ..,by simp⟩,ht0⟩
 case assign=>
  intro l m x W K hK
  gi_wp2
  exact hK
 case body=>
  rintro l m pre x W ⟨⟨v,hv,hrow,hnil⟩,hbel⟩ hlen;have hu:Tryz.prog.underlying 133=some (.slice 136):=Tryz.Us.slice rfl;obtain⟨i0,hi,hz0,hz1,hz2⟩:=info_parts AeS;have hc:=hv.cell;have hf:=hv.frozen
  gi_wp2_with (first
   |(gi_at_builtin;refine wpListIn_append_own _ rfl _ _ 133 rfl w.heap.size 136 i0 (.pointer none) 1 8 hu hi hz0 hz1 hz2 rfl (by decide) _ _ _ rfl (hrow.alloc _) ⟨W.heap.size,0,none⟩ 1 1 [pvo x 0] rfl rfl (cell_one_new _ _ _) (by simp[Value.oneCell']) (by unfold maxLen at *;omega) (by omega) (by have:=hbel.size;simp;omega) ?_;intro v' w1 hown' hgrow _
     obtain⟨g',cap',rfl⟩:=ownsRow_succ hown';obtain⟨hv1,hv2,hr2,hk2,hb2⟩:=hv.appended (by decide) hrow hbel.size (Ag0 _) hown' hgrow;have hc1:=hv1.cell;have hf1:=hv1.frozen)
   |gi_in)
  refine⟨?_,⟨_,hv2,by simpa using hr2,by simp⟩,hbel.trans hb2⟩;refine((Gx.alloc _ W _).trans (Gx.grown hgrow fun r o e ho=>?_)).trans (Gx.grown (grownBy_setCell' w1 w.heap.size _) fun r o e ho=>?_)
  ·rcases (hrow.alloc _).2 with⟨e0,_⟩|⟨g2,cap2,cur2,e0,hgB,hgb,_⟩
   ·subst e0;cases e
   ·subst e0;have e2:some g2=some r:=e;cases e2;rw[hgb] at ho;cases ho;exact⟨hgB,fun⟨_,_,_,e3,h4⟩=>by cases e3;exact h136 h4⟩
  ·cases e;rw[show w1.heap[w.heap.size]?=_ from hv1] at ho;cases ho;exact⟨Ag0 _,fun⟨_,_,_,e3,h4⟩=>by cases e3;exact h133 h4⟩
 case done=>
  rintro D xs W hD hS ⟨⟨v,hv,hrow,hnil⟩,hbel⟩ hK;have hc:=hv.cell
  gi_wp2
  refine⟨by simp,.inl ⟨_,_,rfl,run_takeDeferred hK,?_⟩⟩;refine⟨_,results_tmp rfl _ _ _,v,xs,rfl,hS,ownsRow_putObj hrow _ hK rfl,hnil,?_⟩;exact hbel.trans (belowK_b (w:=w) (Ag0 _) W D _ _ (by simp at hD;omega) hK rfl rfl)
theorem QL {own:TypeId->Prop} (h133:¬own 133) (h136:¬own 136) {g:Nat} {lb:Array Value} (eg:∀args w,(callFunc g args).run Tryz.prog w=.ok (.enter g args) w) {S:List Nat->Prop} {N:Nat} (hN:N<=1000000) {w:World}
  (hseq:Aef own Tryz.prog g lb (fun x:Nat=>#[pvo x 0]) S N w):
  Calls Tryz.prog 128 #[.func (.func g) #[] lb] w fun e w'=>∃v,e=.returned v/\∃xs,S xs/\w'.ownsRow w.heap.size 136 1 v xs.length (xs.map fun x=>pvo x 0)/\Below w.heap.size w w':=by
 have hc:Calls Tryz.prog 173 #[.slice none 0 0,.func (.func g) #[] lb] w fun e w'=>∃v,e=.returned v/\∃xs,S xs/\w'.ownsRow w.heap.size 136 1 v xs.length (xs.map fun x=>pvo x 0)/\Below w.heap.size w w':=
  Calls.mono (KS h133 h136 eg hN hseq) fun e w' ⟨v,xs,h1,h2,h3,_,h5⟩=>⟨v,h1,xs,h2,h3,h5⟩
 refine(callsIn_wide (n:=3)).1 ?_;refine callsIn_of_wp Tryz.func128 rfl trivial ?_ rfl;simp only[Tryz.ntmps128,List.size_toArray,List.length_cons,List.length_nil,Nat.reduceAdd,Nat.reduceSub,Array.replicate_succ,Array.replicate_zero,List.push_toArray,List.append_toArray,List.nil_append,List.cons_append]
 gi_wp2
 refine⟨trivial,callsIn_wide.2 (Calls.mono hc ?_)⟩;rintro e w' ⟨v,rfl,xs,hS,hrow,hbel⟩
 gi_wp2
 exact⟨by simp,_,results_tmp rfl _ _ _,v,rfl,xs,hS,hrow,hbel⟩
def LX (b:Nat):List D:=[.raw (pvo b 0)]
theorem Xy {ρ:Nat->RI} {w:World} {Im:Nat->Prop} (xs:List Nat):A5 (BZ ρ w Im) (rowOf LX xs).flatten (xs.map fun x=>pvo x 0):=by
 induction xs with
 |nil=>exact .nil
 |cons x xs ih=>exact .cons ⟨rfl,rfl⟩ ih
theorem NU {w:World} {base T n:Nat} {v:Value} {xs:List Nat} (h:w.ownsRow base T 1 v n (xs.map fun x=>pvo x 0)):
  ∃r:RI,v=(if r.isNil then .slice none 0 0 else .slice (some ⟨r.blk,0,none⟩) n r.cap)/\(r.isNil=true\/(base<=r.blk/\r.blk<w.heap.size))/\n=xs.length /\
   ∀(ρ:Nat->RI) (Im:Nat->Prop) (nm:Nat),BA (EV ρ nm r) w Im nm (.row T 1 (rowOf LX xs)):=by
 obtain⟨hl,h⟩:=h;have hn:n=xs.length:=by simpa using hl.symm
 rcases h with⟨rfl,h0⟩|⟨g,cap,cur,rfl,hg,hh,hle,hmax,hsz,htk⟩
 ·refine⟨⟨0,0,true⟩,rfl,.inl rfl,hn,fun ρ Im nm=>?_⟩;have:xs=[]:=List.length_eq_zero_iff.1 (by omega);subst this;unfold BA;simp[EV,rowOf]
 ·refine⟨⟨g,cap,false⟩,rfl,.inr ⟨hg,(Array.getElem?_eq_some_iff.1 hh).1⟩,hn,fun ρ Im nm=>?_⟩;have hnew:EV ρ nm ⟨g,cap,false⟩ nm=⟨g,cap,false⟩:=by simp[EV]
  unfold BA;rw[hnew];simp only[Bool.false_eq_true,if_false];refine⟨xs.map fun x=>pvo x 0,cur.toList.drop n,?_,?_,?_,?_,?_,hmax⟩
  ·rw[hh]
   congr 2
   rw[Nat.mul_one] at htk;rw[<-htk,AgH]
  ·exact Xy xs
  ·intro x hx;obtain⟨b,_,rfl⟩:=AgT.1 hx
   rfl
  ·simp only[Agz,Agv,Array.length_toList];omega
  ·rw[Al,<-hn];exact hle
end Go.Proofs.M
end
section
namespace Go.Proofs.Q
open Go Go.Sx
set_option maxRecDepth 4000
attribute [local irreducible] VR VC thenQ blockQ retL
instance Tryz.Agg:Ll Tryz.prog 3 1:=Vo (AM.int Tryz.Zy rfl)
structure Pk where
 id:Int
 to:Int
 prio:Int
 born:Int
 AaB:Int
 data:ByteArray
 deriving DecidableEq,Inhabited
def Pk.enc (x:Pk):List D:=[.int .i64 x.id,.int .i64 x.to,.int .i64 x.prio,.int .i64 x.born,.int .i64 x.AaB,.str x.data]
def Pk.cs (x:Pk):List C:=[.d (.int .i64 x.id),.d (.int .i64 x.to),.d (.int .i64 x.prio),.d (.int .i64 x.born),.d (.int .i64 x.AaB),.d (.str x.data)]
abbrev pkA (x:Pk):AV:=.agg x.cs
abbrev pks (l:List Pk):D:=Iv Pk.enc 6 l
instance:It Pk.enc:=⟨fun _=>rfl⟩
structure Dp where
 id:Int
 slot:Int
 dropped:Bool
 deriving DecidableEq,Inhabited
def Dp.enc (x:Dp):List D:=[.int .i64 x.id,.int .i64 x.slot,.bool x.dropped]
def Dp.cs (x:Dp):List C:=[.d (.int .i64 x.id),.d (.int .i64 x.slot),.d (.bool x.dropped)]
abbrev dpA (x:Dp):AV:=.agg x.cs
abbrev dps (l:List Dp):D:=Iv Dp.enc 3 l
instance:It Dp.enc:=⟨fun _=>rfl⟩
structure Qu where
 Bk:Int
 Af:List Pk
 deriving DecidableEq,Inhabited
def Qu.cs (q:Qu):List C:=[.d (.int .i64 q.Bk),.d (pks q.Af)]
abbrev quA (q:Qu):AV:=.agg q.cs
def inI (n lo hi:Int):Bool:=decide (lo<=n/\n<=hi)
theorem DY (n lo hi:Int):FnS Tryz.prog 211 [AI n,AI lo,AI hi] [] (AB (inI n lo hi)) []:=by
 refine fb Tryz.func211 (by kernel_rfl) rfl Tryz.ntmps211 Tryz.results211 rfl rfl rfl rfl fun E hS=>?_
 repeat'(first|refine sB ?_|refine Ak rfl (by exact tt0) ?_|(refine Ax rfl ?_ ?_<;>intro h<;>have hq:=h<;>(try simp only[hqs] at hq))|fail)
 all_goals refine Aw Ab rfl ?_
 all_goals simp_all [inI]<;>omega
def Ft (p:Pk):Int:=
 if p.id<0\/inI p.to (-1) 31=false\/inI p.prio 0 3=false\/inI p.born 0 1099511627776=false\/inI p.AaB 1 4096=false then 2 else if 127<p.data.size then 8 else 0
theorem H7 (p:Pk):FnS Tryz.prog 212 [pkA p] [] (AI (Ft p)) []:=by
 refine fb Tryz.func212 (by kernel_rfl) rfl Tryz.ntmps212 Tryz.results212 rfl rfl rfl rfl fun E hS=>?_
 repeat'(first|refine sB ?_|refine Ak rfl (by exact tt0) ?_|(refine gC ?_;first|refine Aa (DY _ _ _) (gk rfl) rfl rfl rfl (by rfl) rfl (by rfl) rfl ?_)|(refine Ax rfl ?_ ?_<;>intro h<;>have hq:=h<;>(try simp only[hqs] at hq))|(refine gD ?_;first|refine Ai rfl ?_|(refine Ay rfl ?_ ?_<;>intro h<;>have hq:=h<;>(try simp only[hqs] at hq)))|fail)
 all_goals refine AG Ab rfl ?_
 all_goals unfold Ft
 all_goals first
  |(simp_all;done)
  |(simp_all;omega)
  |trace_state
def IH (l:List Pk) (k:Nat):Int:=
 if Ft (l.getD k default)≠0 then Ft (l.getD k default)
 else if((l.take k).any fun x=>decide (x.id=(l.getD k default).id))=true then 6
 else if 0<k/\(l.getD k default).prio<(l.getD (k-1) default).prio then 5 else 0
def Br (q:Qu):Int:=if inI q.Bk 1 64=false then 2 else if q.Bk<q.Af.length then 8 else Dl q.Af.length (IH q.Af)
theorem IT {q:Qu} {k:Nat} {e:Int} (h1:inI q.Bk 1 64=true) (h0:(q.Af.length:Int)<=q.Bk) (h:k<=q.Af.length/\∀i,i<k->IH q.Af i=0) (hk:k<q.Af.length) (he:IH q.Af k=e) (hne:e≠0):e=Br q:=by
 subst he;rw[Br,AgY (by simp[h1]),AgY (by omega),Gr h.2 hk hne]
theorem QO {q:Qu} {k:Nat} (h1:inI q.Bk 1 64=true) (h0:(q.Af.length:Int)<=q.Bk) (h:k<=q.Af.length/\∀i,i<k->IH q.Af i=0) (hk:q.Af.length<=k):0=Br q:=by
 rw[Br,AgY (by simp[h1]),AgY (by omega),CI fun i hi=>h.2 i (by omega)]
set_option maxRecDepth 4000 in
set_option maxHeartbeats 200000 in
theorem ER (q:Qu):FnS Tryz.prog 157 [quA q] [] (AI (Br q)) []:=by
 refine fb Tryz.func157 (by kernel_rfl) rfl Tryz.ntmps157 Tryz.results157 rfl rfl rfl rfl fun E hS=>?_
 repeat'(first|refine sC ?_|refine Ak rfl (by exact tt0) ?_|(refine gC ?_;first|refine Aa (DY _ _ _) (gk rfl) rfl rfl rfl (by rfl) rfl (by rfl) rfl ?_)|(show VR _ _ _ (⟨_,.makeMap _ none,_,_,_,_⟩ :: _) _ _ _;first|refine PD (gk rfl) rfl rfl rfl rfl ?_)|(refine gD ?_;first|(refine Ay rfl ?_ ?_<;>intro h<;>have hq:=h<;>(try simp only[hqs] at hq)))|fail)
 ·refine AG Ab rfl ?_;rw[Br,AgZ hq]
 ·refine AG Ab rfl ?_;rw[Br,AgY (by simp_all),AgZ (by omega)]
 ·have h1:inI q.Bk 1 64=true:=by simp_all
  have h2:q.Bk<=64:=by simp[inI] at h1;omega
  refine AK (ι:=Nat) (fun k=>AS [(1,.c (.ptr 1 0)),(3,.c (.mp 17)),(19,AD (pks q.Af)),(20,AI q.Af.length),(21,AI k)] [(1,.box q.cs),(17,.map (mpO k1 cfB (YO Pk.id (q.Af.take k))))]) (fun k=>k<=q.Af.length/\∀i,i<k->IH q.Af i=0) (fun k=>q.Af.length-k) 0 ⟨Ag1 _,fun i hi=>absurd hi (AgW _)⟩ ?_ ?_
  ·refine lg ?_ ?_ rfl (by rfl)
   all_goals repeat'(first|exact tt0|refine⟨⟨_,rfl,?_⟩,?_⟩|exact .c .d|exact .c (.ptr rfl)|exact .c (.mp rfl)|exact .Bs rfl rfl|exact .Afy (fun _=>rfl) rfl|fail)
  ·intro k hk
   repeat'(first|refine sR ?_|refine Ak rfl (by exact tt0) ?_|(refine gC ?_;first|refine Aa (H7 _) (gk rfl) rfl rfl rfl (by rfl) rfl (by rfl) rfl ?_)|(refine gI ?_;first|refine Au (gk rfl) rfl rfl rfl rfl rfl (by omega) rfl ?_)|(show VR _ _ _ (⟨_,.lookup _ _ _ _,_,_,_,_⟩ :: _) _ _ _;first|refine SB (gk rfl) rfl rfl rfl rfl rfl rfl ?_)|refine sq 14 rfl ?_|(refine gD ?_;first|(refine Ay rfl ?_ ?_<;>intro h<;>have hq:=h<;>(try simp only[hqs] at hq)))|refine B0 ?_|fail)
   ·refine AG Ab rfl ?_;refine(IT (e:=Ft (q.Af.getD k default)) h1 (by omega) hk (by omega) ?_ hq).symm;rw[IH,AgZ hq]
   ·rw[Ri] at hq;refine AG Ab rfl ?_;refine(IT (e:=6) h1 (by omega) hk (by omega) ?_ (by decide)).symm;rw[IH,AgY (by omega),AgZ hq]
   ·clear h;rw[Ri] at hq;have ha:=hq;clear hq
    repeat'(first|refine sB ?_|refine Ak rfl (by first|exact tt0|omega) ?_|(refine gI ?_;first|refine Dz (gk rfl) rfl rfl rfl rfl rfl (by omega) rfl ?_)|(show VR _ _ _ (⟨_,.mapUpdate _ _ _ _,_,_,_,_⟩ :: _) _ _ _;first|refine Mf (gk rfl) rfl rfl rfl rfl rfl ?_)|(refine Ax rfl ?_ ?_<;>intro h<;>have hq:=h<;>(try simp only[hqs] at hq))|refine Ap (by kernel_rfl) ?_|(refine gD ?_;first|refine Ah rfl ?_|(refine Ay rfl ?_ ?_<;>intro h<;>have hq:=h<;>(try simp only[hqs] at hq)))|fail)
    ·refine AG Ab rfl ?_;refine(IT (e:=5) h1 (by omega) hk (by omega) ?_ (by decide)).symm;rw[IH,AgY (by omega),AgY (by rw[ha];decide),AgZ (by omega)]
    all_goals
     refine⟨k+1,⟨by omega,fun i hi=>?_⟩,by omega,?_⟩
     ·by_cases hik:i<k
      ·exact hk.2 i hik
      ·have:i=k:=by omega
       subst this;rw[IH,AgY (by omega),AgY (by rw[ha];decide),AgY (by omega)]
     ·have e:Xx (YO Pk.id (q.Af.take k)) (q.Af.getD k default).id true=YO Pk.id (q.Af.take (k+1)):=by
       rw[Ce (by omega)];exact Xi ha
      rw[<-e];refine Am (fun n=>n) ?_ ?_ rfl (by(simp only[wfL,wfs,Ae,Ad];rfl))
      all_goals repeat'(first|exact tt0|refine⟨⟨_,rfl,?_⟩,?_⟩|exact .c .d|exact .c (.ptr rfl)|exact .c (.mp rfl)|exact .Bs rfl rfl|exact .Afy (fun _=>rfl) rfl|fail)
   ·refine AG Ab rfl ?_;exact(QO h1 (by omega) hk (by omega)).symm
abbrev B2 (p:Pk->Bool):List DV->DV->Prop:=fun ds r=>∃x:Pk,ds=[.agg x.enc]/\r=.d (.bool (p x))
theorem Hv (l:List Pk) (p:Pk->Bool):FnS Tryz.prog 210 [AD (pks l),.clo (B2 p)] [] (AI (oI (Fs l p))) []:=by
 refine fb Tryz.func210 (by kernel_rfl) rfl Tryz.ntmps210 Tryz.results210 rfl rfl rfl rfl fun E hS=>?_
 refine B9 (t:=0) rfl fun hb=>?_
 repeat'(first|refine sC ?_|refine Ak rfl (by exact tt0) ?_|fail)
 refine AK (ι:=Nat) (fun k=>AS [(0,AD (pks l)),(1,.clo (B2 p)),(7,AI l.length),(8,AI k)] []) (fun k=>k<=l.length/\∀i,i<k->p (l.getD i default)=false) (fun k=>l.length-k) 0 ⟨Ag1 _,fun i hi=>absurd hi (AgW _)⟩ ?_ ?_
 ·exact Ck ⟨rfl,rfl,rfl,rfl,trivial⟩ trivial rfl
 ·intro k hk
  repeat'(first|refine sC ?_|refine Ak rfl (by first|exact tt0|omega) ?_|(refine gC ?_;first|refine E2 (⟨_,rfl,rfl⟩) (gk rfl) rfl rfl rfl rfl ?_)|(refine gI ?_;first|refine Au (gk rfl) rfl rfl rfl rfl rfl (by omega) rfl ?_)|(refine gD ?_;first|(refine Ay rfl ?_ ?_<;>intro h<;>have hq:=h<;>(try simp only[hqs] at hq)))|fail)
  ·refine AG Ab rfl ?_;rw[Ey hk.2 (by omega) h];rfl
  ·refine⟨k+1,⟨by omega,fun i hi=>?_⟩,by omega,Ck ⟨rfl,rfl,rfl,rfl,trivial⟩ trivial rfl⟩;by_cases hik:i<k
   ·exact hk.2 i hik
   ·have:i=k:=by omega
    subst this;exact h
  ·refine AG Ab rfl ?_;have:k=l.length:=by omega
   subst this;rw[DR hk.2];rfl
theorem Jc (l:List Pk) (p:Pk->Bool):FnS Tryz.prog 155 [AD (pks l),.clo (B2 p)] [] (AB (l.any p)) []:=by
 refine fb Tryz.func155 (by kernel_rfl) rfl Tryz.ntmps155 Tryz.results155 rfl rfl rfl rfl fun E hS=>?_
 repeat'(first|refine sB ?_|refine Ak rfl (by exact tt0) ?_|(refine gC ?_;first|refine AF [] (Hv l p) (gk rfl) rfl (by(repeat'(first|exact .nil|refine .cons ?_ ?_|exact .of0 (.c .d)|exact .clo))<;>fail) (by rfl) rfl (by rfl) rfl (by rfl) rfl ?_)|fail)
 all_goals exact Aw Ab rfl (E9 _ _).symm
theorem GU (l:List Pk) (hl:l.length<=100000):FnS Tryz.prog 136 [AD (pks l)] [] (.c (.row 7 l.length)) [(7,.row 120 6 (rowOf Pk.enc l))]:=by
 refine fb Tryz.func136 (by kernel_rfl) rfl Tryz.ntmps136 Tryz.results136 rfl rfl rfl rfl fun E hS=>?_
 refine AJ ?_
 repeat'(first|refine sR ?_|refine Ak rfl (by exact tt0) ?_|refine sq 1 rfl ?_|fail)
 refine BC ?_;refine BC ?_;refine FD rfl rfl rfl rfl fun b hb=>?_
 repeat'(first|refine sB ?_|refine Ak rfl (by exact tt0) ?_|(refine gA ?_;first|refine Be (gk rfl) rfl rfl rfl (by rfl) (by exact .rd) rfl rfl rfl (by(try dsimp only);omega) rfl rfl ?_)|(refine gD ?_;first|(refine Ay rfl ?_ ?_<;>intro h<;>have hq:=h<;>(try simp only[hqs] at hq)))|fail)
 ·have h0:l=[]:=Ag9 (hb (by assumption));subst h0;exact Ao (le_nil (T:=120) (sz:=6) (nm:=7) (t:=2) rfl rfl) (Bn Ab rfl rfl)
 ·refine Ao (Am (l:=[(2,.c (.row 7 l.length))]) (b:=[(7,.row 120 6 (rowOf Pk.enc l))]) (fun n=>n) ⟨⟨_,rfl,.c (.row rfl (by simp))⟩,trivial⟩ ⟨⟨_,rfl,.Bc ?_ Ag⟩,trivial⟩ rfl (by simp only[wfL,wfs];rfl)) (Bn Ab rfl rfl);exact(List.nil_append _).trans (FI (enc:=Pk.enc) (sz:=6) fun _=>rfl)
theorem Y3 (l:List Pk) (p:Pk->Bool) (hl:l.length<=100000):FnS Tryz.prog 221 [.c (.row 0 l.length),.clo (B2 p)] [(0,.row 120 6 (rowOf Pk.enc l))]
  (.c (.row 0 (l.filter fun x=>!p x).length)) [(0,.row 120 6 (rowOf Pk.enc (l.filter fun x=>!p x)))]:=by
 refine FnS.Bw (enters_of Tryz.func221 (by kernel_rfl) rfl) Tryz.func221 rfl Tryz.ntmps221 Tryz.results221 rfl (by first|rfl|(simp only[A0,wfL,AH,wfs];rfl)) rfl fun E=>?_
 refine AJ ?_;have hidx:=Hv l p;cases hf:Fs l p with
 |none=>
  rw[hf] at hidx;have hidx':FnS Tryz.prog 210 [AD (pks l),.clo (B2 p)] [] (AI (-1)) []:=hidx
  repeat'(first|refine sB ?_|refine Ak rfl (by exact tt0) ?_|(refine gC ?_;first|refine AF [0] (hidx') (gk rfl) rfl (by(repeat'(first|exact .nil|refine .cons ?_ ?_|exact .clo|exact(.of0 (.c (A9 (by simp) rfl rfl (fun _=>rfl))))))<;>fail) (by rfl) rfl (by rfl) rfl (by rfl) rfl ?_)|(refine gD ?_;first|refine Ai rfl ?_)|fail)
  have e:l.filter (fun x=>!p x)=l:=Go.Sx.filter_none (EK hf);rw[e];exact J9 (Bn Ab rfl rfl)
 |some i=>
  rw[hf] at hidx;obtain⟨hi,hpi,hlt⟩:=BJ hf;have hidx':FnS Tryz.prog 210 [AD (pks l),.clo (B2 p)] [] (AI (i:Nat)) []:=hidx
  repeat'(first|refine sC ?_|refine Ak rfl (by first|exact tt0|omega) ?_|(refine gC ?_;first|refine AF [0] (hidx') (gk rfl) rfl (by(repeat'(first|exact .nil|refine .cons ?_ ?_|exact .clo|exact(.of0 (.c (A9 (by simp) rfl rfl (fun _=>rfl))))))<;>fail) (by rfl) rfl (by rfl) rfl (by rfl) rfl ?_)|(refine gD ?_;first|refine Ah rfl ?_)|fail)
  refine AK (ι:=Nat×Nat×List Pk) (fun q=>AS [(0,.c (.row 0 l.length)),(1,.clo (B2 p)),(5,AI q.2.1),(6,AI q.1)] [(0,.row 120 6 (rowOf Pk.enc q.2.2))])
   (fun q=>q.1<=l.length/\q.2.1<q.1/\q.2.2.length=l.length/\q.2.2.take q.2.1=(l.take q.1).filter (fun x=>!p x)/\q.2.2.drop q.1=l.drop q.1) (fun q=>l.length-q.1) (i+1,i,l) ⟨hi,Nat.lt_succ_self _,rfl,Go.Sx.Ia hi hpi hlt,rfl⟩ ?_ ?_
  ·exact Ck ⟨rfl,rfl,rfl,rfl,trivial⟩ ⟨rfl,trivial⟩ (by simp only[wfL,wfs];rfl)
  ·rintro⟨k,j,L⟩ ⟨h1,h2,h3,h4,h5⟩;dsimp only at h1 h2 h3 h4 h5 ⊢
   repeat'(first|refine sR ?_|refine Ak rfl (by first|exact tt0|omega) ?_|(refine gC ?_;first|refine E2 (⟨_,rfl,rfl⟩) (gk rfl) rfl rfl rfl rfl ?_)|(refine gI ?_;first|refine BG (gk rfl) rfl rfl rfl rfl rfl rfl (by omega) (by omega) rfl ?_)|(refine gE ?_;first|refine BB (gk rfl) rfl rfl (by(simp only[lns]<;>omega)) rfl rfl ?_)|(refine gL ?_;first|refine Dj (gk rfl) rfl rfl (by omega) rfl rfl rfl ?_)|(refine gS ?_;first|refine By (gk rfl) rfl rfl rfl (by omega) rfl rfl rfl ?_)|refine sq 11 rfl ?_|(refine gD ?_;first|(refine Ay rfl ?_ ?_<;>intro h<;>have hq:=h<;>(try simp only[hqs] at hq)))|refine B0 ?_|fail)
   ·have hk:k<l.length:=by omega
    obtain⟨hx,hd⟩:=Go.Sx.EO h3 h5 hk;refine⟨(k+1,j+1,L.set j (L.getD k default)),⟨by dsimp only;omega,by dsimp only;omega,by simp[h3],?_,?_⟩,by dsimp only;omega,Am (fun n=>n) ⟨⟨_,rfl,.c (.row rfl rfl)⟩,⟨_,rfl,.clo⟩,⟨_,rfl,.c .d⟩,⟨_,rfl,.c .d⟩,trivial⟩
     ⟨⟨_,rfl,.Bc (DJ rfl) Ag⟩,trivial⟩ rfl (by simp only[wfL,wfs];rfl)⟩
    ·dsimp only;rw[Go.Sx.take_set (by omega),h4,Go.Sx.Ce hk,List.filter_append,hx,List.filter_cons_of_pos (by rw[<-hx];exact h)];rfl
    ·dsimp only;rw[List.drop_set_of_lt (by omega),hd]
   ·have hk:k<l.length:=by omega
    obtain⟨hx,hd⟩:=Go.Sx.EO h3 h5 hk;refine⟨(k+1,j,L),⟨by dsimp only;omega,by dsimp only;omega,h3,?_,hd⟩,by dsimp only;omega,Am (fun n=>n) ⟨⟨_,rfl,.c (.row rfl rfl)⟩,⟨_,rfl,.clo⟩,⟨_,rfl,.c .d⟩,⟨_,rfl,.c .d⟩,trivial⟩
     ⟨⟨_,rfl,.Bc rfl Ag⟩,trivial⟩ rfl (by simp only[wfL,wfs];rfl)⟩
    dsimp only;rw[h4,Go.Sx.Ce hk,List.filter_append,List.filter_cons_of_neg (by rw[<-hx,h];simp)];simp
   ·have hk:k=l.length:=by omega
    subst hk;refine En (nm:=0) rfl (E3 (by omega)) fun cp spare hcp hmax=>?_
    rw[Al] at hcp
    repeat'(first|refine sB ?_|refine Ak rfl (by exact tt0) ?_|(show VR _ _ _ (⟨_,.slice _ _ _ _ _,_,_,_,_⟩ :: _) _ _ _;first|refine B8 (gk rfl) rfl rfl (by exact .full) rfl rfl (by first|exact .no|exact .int rfl rfl) (by omega) (by omega) rfl ?_|refine Bi (gk rfl) rfl rfl (by exact .full) rfl rfl (by exact .int rfl rfl) (by exact .no) (by omega) (by omega) (by omega) rfl ?_)|(show VR _ _ _ (⟨_,.call ⟨.builtin .clear,_,_⟩,_,_,_,_⟩ :: _) _ _ _;first|refine Jn (gk rfl) rfl (by exact .sub) rfl rfl rfl rfl rfl (by(simp only[lns];omega)) ?_)|fail)
    rw[List.take_length] at h4;have hj:(l.filter fun x=>!p x).length=j:=by rw[<-h4,Ags];omega
    rw[hj,<-h4];refine Ao (Am (l:=[(4,.c (.row 0 j))]) (b:=[(0,.row 120 6 (rowOf Pk.enc (L.take j)))]) (fun n=>n) ⟨⟨_,rfl,.c (.row rfl rfl)⟩,trivial⟩ ⟨⟨_,rfl,.Ji j ?_⟩,trivial⟩ rfl (by simp only[wfL,wfs];rfl)) (Bn Ab rfl rfl);rw[AgE,List.take_append_of_le_length (by rw[Ags,Al];omega),List.take_take,Nat.min_self,CN]
instance Afv:Overlaps Tryz.prog 301:=
 ⟨34,4,120,6,AM.slice Tryz.YK rfl,fun w=>AM.Bh Tryz.Uu w,fun args w=>run_callFunc_extern Tryz.func301 (by kernel_rfl) (by kernel_rfl) (by kernel_rfl) (by kernel_rfl) args w⟩
abbrev Pk1 (x:Pk):D:=.rd 1 6 fun _ j=>(Pk.enc x).getD j .Db
theorem LO (l:List Pk) (i:Nat) (x:Pk):rowOf Pk.enc (Bq l i x)=List.take i (rowOf Pk.enc l)++(Pk.enc x).map C.d :: List.drop i (rowOf Pk.enc l):=by
 rw[Bq,AZ,CN,EA]
 rfl
theorem H3 (l:List Pk) (i:Nat) (x:Pk) (hl:l.length<=100000) (hi:i<=l.length):FnS Tryz.prog 273 [.c (.row 0 l.length),AI i,AD (Pk1 x)] [(0,.row 120 6 (rowOf Pk.enc l))]
  (.c (.row 1 (l.length+1))) [(1,.row 120 6 (rowOf Pk.enc (Bq l i x)))]:=by
 refine FnS.Bw (enters_of Tryz.func273 (by kernel_rfl) rfl) Tryz.func273 rfl Tryz.ntmps273 Tryz.results273 rfl (by first|rfl|(simp only[A0,wfL,AH,wfs];rfl)) rfl fun E=>?_
 refine AJ ?_
 repeat'(first|refine sR ?_|refine Ak rfl (by exact tt0) ?_|(refine gE ?_;first|refine BB (gk rfl) rfl rfl (by exact Al.symm) rfl rfl ?_)|(refine gA ?_;first|refine Be (gk rfl) rfl rfl rfl (by exact Al.symm) (by exact .rd) rfl rfl rfl (by(try dsimp only);omega) rfl rfl ?_)|(show VR _ _ _ (⟨_,.slice _ _ _ _ _,_,_,_,_⟩ :: _) _ _ _;first|refine Bi (gk rfl) rfl rfl (by exact .row) rfl rfl (by exact .int rfl rfl) (by exact .no) (by omega) (by(simp only[lns];omega)) (by(simp only[lns];omega)) rfl ?_)|refine sq 8 rfl ?_|(refine gD ?_;first|refine Ah rfl ?_|(refine Ay rfl ?_ ?_<;>intro h<;>have hq:=h<;>(try simp only[hqs] at hq)))|fail)
 ·have e:i=l.length:=by omega
  subst e;refine Ao (Am (l:=[(6,.c (.row 1 (l.length+1)))]) (b:=[(1,.row 120 6 (rowOf Pk.enc (Bq l l.length x)))]) (fun n=>if n=1 then 25 else n) ⟨⟨_,rfl,.c (.row rfl rfl)⟩,trivial⟩
   ⟨⟨_,rfl,.Bc ?_ Ag⟩,trivial⟩ rfl (by simp only[wfL,wfs];rfl)) (Bn Ab rfl rfl)
  rw[Bq,List.take_length,List.drop_length,AZ]
  rfl
 ·refine En (nm:=0) rfl (E3 (by omega)) fun cp spare hcp hmax=>?_
  rw[Al] at hcp
  repeat'(first|refine sR ?_|refine Ak rfl (by first|exact tt0|omega) ?_|(refine gC ?_;first|refine FA (gk rfl) rfl rfl rfl (by exact .full) (by omega) rfl rfl rfl ?_)|(refine gA ?_;first|refine Dk (gk rfl) rfl rfl rfl rfl rfl rfl rfl rfl rfl rfl (by omega) (by(simp only[lns];omega)) (by omega) (by(try dsimp only);omega) rfl rfl ?_)|(show VR _ _ _ (⟨_,.slice _ _ _ _ _,_,_,_,_⟩ :: _) _ _ _;first|refine B8 (gk rfl) rfl rfl (by exact .full) rfl rfl (by first|exact .no|exact .int rfl rfl) (by omega) (by omega) rfl ?_|refine Bi (gk rfl) rfl rfl (by exact .full) rfl rfl (by exact .int rfl rfl) (by exact .no) (by omega) (by omega) (by omega) rfl ?_)|(show VR _ _ _ (⟨_,.call ⟨.builtin .copy,_,_⟩,_,_,_,_⟩ :: _) _ _ _;first|refine Gc (gk rfl) rfl rfl (by exact .sub) rfl (by first|exact .src .rd|exact .tail rfl (by(simp only[lns];omega)) (by omega)) rfl rfl rfl (by(simp only[lns];omega)) (by omega) rfl ?_)|(show VR _ _ _ (⟨_,.call ⟨.builtin .cap,_,_⟩,_,_,_,_⟩ :: _) _ _ _;first|refine FC (gk rfl) rfl rfl rfl rfl ?_)|refine Ap (by kernel_rfl) ?_|refine sq 10 rfl ?_|(refine gD ?_;first|refine Ai rfl ?_|(refine Ay rfl ?_ ?_<;>intro h<;>have hq:=h<;>(try simp only[hqs] at hq)))|fail)
  ·have hq1:((l.length:Int)+(1:Nat)-i).toNat=l.length+1-i:=by omega
   refine En (nm:=40) rfl (by
    intro e;have:=congrArg List.length e;rw[Agn,Agw] at this;change _+_=0 at this;omega) fun cp2 spare2 hcp2 hmax2=>?_
   rw[Agn,Agw,Ags,Al] at hcp2
   repeat'(first|refine sB ?_|refine Ak rfl (by first|exact tt0|omega) ?_|(show VR _ _ _ (⟨_,.slice _ _ _ _ _,_,_,_,_⟩ :: _) _ _ _;first|refine Bi (gk rfl) rfl rfl (by exact .full) rfl rfl (by exact .int rfl rfl) (by exact .no) (by omega) (by omega) (by omega) rfl ?_)|(show VR _ _ _ (⟨_,.call ⟨.builtin .copy,_,_⟩,_,_,_,_⟩ :: _) _ _ _;first|refine Gc (gk rfl) rfl rfl (by exact .sub) rfl (by first|exact .src .rd|exact .src (.sub rfl (by exact .full) (by(simp only[lns];omega)))) rfl rfl rfl (by(simp only[lns];omega)) (by omega) rfl ?_)|refine Ap (by kernel_rfl) ?_|fail)
   refine Ao (Am (l:=[(6,.c (.row 1 (l.length+1)))]) (b:=[(1,.row 120 6 (rowOf Pk.enc (Bq l i x)))]) (fun n=>if n=1 then 40 else n) ⟨⟨_,rfl,.c (.row rfl (by omega))⟩,trivial⟩
    ⟨⟨_,rfl,.Ji (l.length+1) ?_⟩,trivial⟩ rfl (by simp only[wfL,wfs];rfl)) (Bn Ab rfl rfl)
   rw[hq1,show min 1 (i+(l.length+1-i)-i)=1 by omega,show min (l.length-i) (i+(l.length+1-i)-(i+1))=l.length-i by omega];exact(JI (y:=(Pk.enc x).map C.d) (Al (enc:=Pk.enc)) (by omega) rfl).trans (LO l i x).symm
  ·refine Ao (Am (l:=[(6,.c (.row 1 (l.length+1)))]) (b:=[(1,.row 120 6 (rowOf Pk.enc (Bq l i x)))]) (fun n=>if n=1 then 0 else n) ⟨⟨_,rfl,.c (.row rfl rfl)⟩,trivial⟩
    ⟨⟨_,rfl,.Ji (l.length+1) ?_⟩,trivial⟩ rfl (by simp only[wfL,wfs];rfl)) (Bn Ab rfl rfl)
   rw[show min 1 (l.length+1-i)=1 by omega,show min (l.length+1-i) (l.length+1-(i+1))=l.length-i by omega];exact(JH (y:=(Pk.enc x).map C.d) (Al (enc:=Pk.enc)) (by omega)).trans (LO l i x).symm
theorem Wa (l:List Pk) (i:Nat) (hi:i<l.length) (hl:l.length<=100000):FnS Tryz.prog 309 [.c (.row 0 l.length),AI i,AI (i+1:Int)] [(0,.row 120 6 (rowOf Pk.enc l))]
  (.c (.row 0 (l.length-1))) [(0,.row 120 6 (rowOf Pk.enc (l.eraseIdx i)))]:=by
 refine FnS.Bw (enters_of Tryz.func309 (by kernel_rfl) rfl) Tryz.func309 rfl Tryz.ntmps309 Tryz.results309 rfl (by first|rfl|(simp only[A0,wfL,AH,wfs];rfl)) rfl fun E=>?_
 refine AJ ?_;refine En (nm:=0) rfl (E3 (by omega)) fun cp spare hcp hmax=>?_
 rw[Al] at hcp
 repeat'(first|refine sB ?_|refine Ak rfl (by exact tt0) ?_|(refine gE ?_;first|refine PG (gk rfl) rfl rfl rfl rfl ?_)|(refine gA ?_;first|refine K1 (gk rfl) rfl rfl rfl (by exact .sub rfl (by exact .full) (by(simp only[lns];omega))) rfl rfl (by(simp only[lns];omega)) (by omega) rfl ?_)|(show VR _ _ _ (⟨_,.slice _ _ _ _ (some _),_,_,_,_⟩ :: _) _ _ _;first|refine Nt (gk rfl) rfl rfl rfl rfl (by exact .int rfl rfl) (by exact .int rfl rfl) (by exact .int rfl rfl) (by omega) (by(simp only[lns];omega)) (by omega) rfl ?_)|(show VR _ _ _ (⟨_,.slice _ _ _ _ _,_,_,_,_⟩ :: _) _ _ _;first|refine B8 (gk rfl) rfl rfl (by exact .full) rfl rfl (by first|exact .no|exact .int rfl rfl) (by omega) (by omega) rfl ?_|refine Bi (gk rfl) rfl rfl (by exact .full) rfl rfl (by exact .int rfl rfl) (by first|exact .no|exact .int rfl rfl) (by first|omega|(simp only[lns];omega)) (by omega) (by omega) rfl ?_)|(show VR _ _ _ (⟨_,.call ⟨.builtin .clear,_,_⟩,_,_,_,_⟩ :: _) _ _ _;first|refine Jn (gk rfl) rfl (by exact .sub) rfl rfl rfl rfl rfl (by(simp only[lns];omega)) ?_)|refine Ap (by kernel_rfl) ?_|(refine gD ?_;first|(refine Ay rfl ?_ ?_<;>intro h<;>have hq:=h<;>(try simp only[hqs] at hq)))|fail)
 ·exfalso;omega
 ·have e1:i+(l.length-(i+1))=l.length-1:=by omega
  have e2:(l.eraseIdx i).length=l.length-1:=List.length_eraseIdx_of_lt hi;refine Ao (Am (l:=[(6,.c (.row 0 (l.length-1)))]) (b:=[(0,.row 120 6 (rowOf Pk.enc (l.eraseIdx i)))]) (fun n=>n) ⟨⟨_,rfl,.c (.row rfl e1)⟩,trivial⟩ ⟨⟨_,rfl,.Ji (l.length-1) ?_⟩,trivial⟩ rfl (by simp only[wfL,wfs];rfl)) (Bn Ab rfl rfl);rw[e1];exact Abc (Al (enc:=Pk.enc)) hi
abbrev Ad2 (p:Dp->Bool):List DV->DV->Prop:=fun ds r=>∃x:Dp,ds=[.agg x.enc]/\r=.d (.bool (p x))
theorem Vy (x:Pk) (t:Int):FnS Tryz.prog 300 [pkA x,.ep (fun _=>.int .i64 t) 1] [] (AB (decide (x.id=t))) []:=by
 refine fb Tryz.func300 (by kernel_rfl) rfl Tryz.ntmps300 Tryz.results300 rfl rfl rfl rfl fun E hS=>?_
 repeat'(first|refine sB ?_|refine Ak rfl (by exact tt0) ?_|fail)
 all_goals exact Aw Ab rfl rfl
theorem XQ {σ:St} {t:Int} {n1:Nat} {L:List Nat} (hL:n1∈L) (h1:σ (.b n1)=some (.k (.box [.d (.int .i64 t)]))):AR Tryz.prog σ L (.fnc 300 [.ptr n1 0]) (.clo (B2 fun x=>decide (x.id=t))):=
 .fnc (eps:=[.ep (fun _=>.int .i64 t) 1]) (.cons (.ptr hL h1 (fun j hj=>by
  have:j=0:=by omega
  subst this;rfl)) .nil) (enters_of Tryz.func300 (by kernel_rfl) rfl)
  (by rintro _ _ ⟨x,rfl,rfl⟩;exact⟨rfl,Vy x t⟩)
theorem QA (x:Pk) (t:Int):FnS Tryz.prog 315 [pkA x,.ep (fun _=>.int .i64 t) 1] [] (AB (decide (x.to=t))) []:=by
 refine fb Tryz.func315 (by kernel_rfl) rfl Tryz.ntmps315 Tryz.results315 rfl rfl rfl rfl fun E hS=>?_
 repeat'(first|refine sB ?_|refine Ak rfl (by exact tt0) ?_|fail)
 all_goals exact Aw Ab rfl rfl
theorem TH {σ:St} {t:Int} {n1:Nat} {L:List Nat} (hL:n1∈L) (h1:σ (.b n1)=some (.k (.box [.d (.int .i64 t)]))):AR Tryz.prog σ L (.fnc 315 [.ptr n1 0]) (.clo (B2 fun x=>decide (x.to=t))):=
 .fnc (eps:=[.ep (fun _=>.int .i64 t) 1]) (.cons (.ptr hL h1 (fun j hj=>by
  have:j=0:=by omega
  subst this;rfl)) .nil) (enters_of Tryz.func315 (by kernel_rfl) rfl)
  (by rintro _ _ ⟨x,rfl,rfl⟩;exact⟨rfl,QA x t⟩)
theorem UT (x p:Pk):FnS Tryz.prog 272 [pkA x,.ep (fun j=>p.enc.getD j .Db) 6] [] (AB (decide (p.prio<x.prio))) []:=by
 refine fb Tryz.func272 (by kernel_rfl) rfl Tryz.ntmps272 Tryz.results272 rfl rfl rfl rfl fun E hS=>?_
 repeat'(first|refine sB ?_|refine Ak rfl (by exact tt0) ?_|fail)
 all_goals exact Aw Ab rfl rfl
theorem Jx {σ:St} {p:Pk} {n1:Nat} {L:List Nat} (hL:n1∈L) (h1:σ (.b n1)=some (.k (.box p.cs))):AR Tryz.prog σ L (.fnc 272 [.ptr n1 0]) (.clo (B2 fun x=>decide (p.prio<x.prio))):=
 .fnc (eps:=[.ep (fun j=>p.enc.getD j .Db) 6]) (.cons (.ptr hL h1 (fun j hj=>by
  have:j=0\/j=1\/j=2\/j=3\/j=4\/j=5:=by omega
  rcases this with rfl|rfl|rfl|rfl|rfl|rfl<;>rfl)) .nil) (enters_of Tryz.func272 (by kernel_rfl) rfl)
  (by rintro _ _ ⟨x,rfl,rfl⟩;exact⟨rfl,UT x p⟩)
def OF (l:List Pk) (id:Int):Option Nat:=Fs l fun x=>decide (x.id=id)
def Qn (l:List Pk) (to:Int):Option Nat:=Fs l fun x=>decide (x.to=to)
theorem Kb (q:Qu) (id:Int):FnS Tryz.prog 271 [quA q,AI id] [] (AI (oI (OF q.Af id))) []:=by
 refine fb Tryz.func271 (by kernel_rfl) rfl Tryz.ntmps271 Tryz.results271 rfl rfl rfl rfl fun E hS=>?_
 repeat'(first|refine sB ?_|refine Ak rfl (by exact tt0) ?_|(refine gC ?_;first|refine AF [3] (Hv q.Af (fun x=>decide (x.id=id))) (gk rfl) rfl (by(repeat'(first|exact .nil|refine .cons ?_ ?_|exact .of0 (.c .d)|exact(XQ (by simp) rfl)))<;>fail) (by rfl) rfl (by rfl) rfl (by rfl) rfl ?_)|fail)
 all_goals exact AG Ab rfl rfl
theorem TF (l:List Pk) (to:Int):FnS Tryz.prog 307 [AD (pks l),AI to] [] (AI (oI (Qn l to))) []:=by
 refine fb Tryz.func307 (by kernel_rfl) rfl Tryz.ntmps307 Tryz.results307 rfl rfl rfl rfl fun E hS=>?_
 repeat'(first|refine sB ?_|refine Ak rfl (by exact tt0) ?_|(refine gC ?_;first|refine AF [3] (Hv l (fun x=>decide (x.to=to))) (gk rfl) rfl (by(repeat'(first|exact .nil|refine .cons ?_ ?_|exact .of0 (.c .d)|exact(TH (by simp) rfl)))<;>fail) (by rfl) rfl (by rfl) rfl (by rfl) rfl ?_)|fail)
 all_goals exact AG Ab rfl rfl
def Gf (p:Pk) (slot:Int):Bool:=decide (0<=slot)&&decide (p.AaB<=IntKind.i64.wrap (slot-p.born))
theorem Lq (p:Pk) (slot:Int):FnS Tryz.prog 219 [pkA p,AI slot] [] (AB (Gf p slot)) []:=by
 refine fb Tryz.func219 (by kernel_rfl) rfl Tryz.ntmps219 Tryz.results219 rfl rfl rfl rfl fun E hS=>?_
 repeat'(first|refine sB ?_|refine Ak rfl (by exact tt0) ?_|(refine gB ?_;first|refine IY rfl rfl rfl rfl rfl ?_)|(refine Ax rfl ?_ ?_<;>intro h<;>have hq:=h<;>(try simp only[hqs] at hq))|fail)
 all_goals(refine Aw Ab rfl ?_;unfold Gf;first|(simp_all;done)|(simp_all;intro h;omega))
def atP (l:List Pk) (pr:Int):Nat:=(Fs l fun x=>decide (pr<x.prio)).getD l.length
def noQ:Qu:=⟨0,[]⟩
def EW (q:Qu) (p:Pk):Qu×List Pk×Int:=
 if Br q≠0 then(noQ,[],1) else if Ft p≠0 then(noQ,[],Ft p) else if(q.Af.any fun x=>decide (x.id=p.id))=true then(noQ,[],6)
 else if q.Af.length=q.Bk then
  if(q.Af.getD (q.Af.length-1) default).prio<=p.prio then(noQ,[],13)
  else(⟨q.Bk,Bq (q.Af.take (q.Af.length-1)) (atP (q.Af.take (q.Af.length-1)) p.prio) p⟩,[q.Af.getD (q.Af.length-1) default],0)
 else(⟨q.Bk,Bq q.Af (atP q.Af p.prio) p⟩,[],0)
theorem CP {q:Qu} (h:Br q=0):1<=q.Bk/\q.Bk<=64/\(q.Af.length:Int)<=q.Bk:=by
 unfold Br at h
 split at h
 ·cases h
 ·split at h
  ·cases h
  ·rename_i h1 h2;simp[inI] at h1;omega
theorem GG {q:Qu} {id:Int}:decide (0<=oI (OF q.Af id))=q.Af.any fun x=>decide (x.id=id):=E9 _ _
set_option maxHeartbeats 2000000 in
theorem Jv (q:Qu) (p:Pk):FnS Tryz.prog 222 [quA q,pkA p] [] (.tup [quA (EW q p).1,AD (pks (EW q p).2.1),AI (EW q p).2.2]) []:=by
 have hck:=ER q;have hfm:=H7 p;refine fb Tryz.func222 (by kernel_rfl) rfl Tryz.ntmps222 Tryz.results222 rfl rfl rfl rfl fun E hS=>?_
 refine AJ ?_;by_cases hc:Br q=0
 ·rw[hc] at hck;obtain⟨hl1,hl2,hl3⟩:=CP hc;by_cases hf:Ft p=0
  ·rw[hf] at hfm;have hat:=Hv q.Af (fun x=>decide (p.prio<x.prio));have hat2:=Hv (q.Af.take (q.Af.length-1)) (fun x=>decide (p.prio<x.prio));have e:EW q p=if(q.Af.any fun x=>decide (x.id=p.id))=true then(noQ,[],6)
     else if q.Af.length=q.Bk then
      if(q.Af.getD (q.Af.length-1) default).prio<=p.prio then(noQ,[],13)
      else(⟨q.Bk,Bq (q.Af.take (q.Af.length-1)) (atP (q.Af.take (q.Af.length-1)) p.prio) p⟩,[q.Af.getD (q.Af.length-1) default],0)
     else(⟨q.Bk,Bq q.Af (atP q.Af p.prio) p⟩,[],0):=by rw[EW,AgY (by omega),AgY (by omega)]
   repeat'(first|refine sR ?_|refine Ak rfl (by first|exact tt0|omega) ?_|(refine gC ?_;first|refine Aa (hck) (gk rfl) rfl rfl rfl (by rfl) rfl (by rfl) rfl ?_|refine Aa (hfm) (gk rfl) rfl rfl rfl (by rfl) rfl (by rfl) rfl ?_|refine Aa (Kb q p.id) (gk rfl) rfl rfl rfl (by rfl) rfl (by rfl) rfl ?_|refine Aa (GU q.Af (by omega)) (gk rfl) rfl rfl rfl (by(simp only[A0,wfL,AH,wfs];rfl)) rfl (by exact Bx) rfl ?_)|(refine gI ?_;first|refine FB (gk rfl) rfl rfl rfl rfl rfl (by omega) (by exact Al.symm) rfl ?_)|(refine gE ?_;first|refine BB (gk rfl) rfl rfl (by exact Al.symm) rfl rfl ?_)|(refine gA ?_;first|refine JW (gk rfl) rfl rfl (by exact .row rfl (by rfl)) rfl rfl rfl (by(try dsimp only);omega) rfl rfl ?_)|(show VR _ _ _ (⟨_,.slice _ _ _ _ _,_,_,_,_⟩ :: _) _ _ _;first|refine B8 (gk rfl) rfl rfl (by exact .row) rfl rfl (by exact .nat rfl (by omega)) (by(simp only[lns];omega)) (by(simp only[lns];omega)) rfl ?_)|(refine gL ?_;first|refine Dj (gk rfl) rfl rfl (by omega) rfl rfl rfl ?_|refine Co (gk rfl) rfl rfl (by omega) rfl rfl rfl ?_)|refine Ap (by kernel_rfl) ?_|refine sq 15 rfl ?_|(refine gD ?_;first|refine Ah rfl ?_|(refine Ay rfl ?_ ?_<;>intro h<;>have hq:=h<;>(try simp only[hqs] at hq)))|fail)
   ·rw[AgZ (by rw[<-GG];exact h)] at e;rw[e];refine Ao (Am (l:=[(4,.c (.ptr 4 0)),(5,AD (pks [])),(6,AI 6)]) (b:=[(4,.box noQ.cs)]) (fun n=>n) ?_ ?_ rfl (by rfl)) (Bt Ab rfl rfl rfl rfl rfl rfl rfl rfl rfl)
    all_goals repeat'(first|exact tt0|refine⟨⟨_,rfl,?_⟩,?_⟩|exact .c .d|exact .c (.ptr rfl)|exact .c .nil|refine .box ?_|exact .nil|refine .cons ?_ ?_|exact .d|fail)
   ·have hn:((q.Af.length:Int)-1).toNat=q.Af.length-1:=by omega
    rw[hn] at hq;rw[AgY (by rw[<-GG];simp;omega),AgZ (by omega),AgZ hq] at e;rw[e];refine Ao (Am (l:=[(4,.c (.ptr 4 0)),(5,AD (pks [])),(6,AI 13)]) (b:=[(4,.box noQ.cs)]) (fun n=>n) ?_ ?_ rfl (by rfl)) (Bt Ab rfl rfl rfl rfl rfl rfl rfl rfl rfl)
    all_goals repeat'(first|exact tt0|refine⟨⟨_,rfl,?_⟩,?_⟩|exact .c .d|exact .c (.ptr rfl)|exact .c .nil|refine .box ?_|exact .nil|refine .cons ?_ ?_|exact .d|fail)
   ·have hn:((q.Af.length:Int)-1).toNat=q.Af.length-1:=by omega
    rw[hn] at hq h;have hlt:(q.Af.take (q.Af.length-1)).length=q.Af.length-1:=by rw[Ags];omega
    rw[AgY (by rw[<-GG];simp;omega),AgZ (by omega),AgY (by omega)] at e;rw[e];refine VC.le (σ':=AS [(2,.c (.ptr 2 0)),(3,.c (.ptr 3 0)),(4,.c (.ptr 4 0)),(8,.c (.row 8 (q.Af.take (q.Af.length-1)).length)),(9,AD (pks [q.Af.getD (q.Af.length-1) default]))]
     [(2,.box q.cs),(3,.box p.cs),(4,.box noQ.cs),(8,.row 120 6 (rowOf Pk.enc (q.Af.take (q.Af.length-1))))]) ?_ ?_
    ·rw[hn];refine Bm (fun n=>if n=8 then 30007 else n) [54] hS ?_ ?_ rfl (by(simp only[wfL,wfs];rfl))
     all_goals repeat'(first|exact tt0|refine⟨⟨_,rfl,?_⟩,?_⟩|exact .c (.ptr rfl)|(refine .c (.row rfl ?_);((try dsimp only);first|omega);done)|exact .c (.Cd (by(simp;done)) rfl rfl (fun _=>rfl))|exact .Bs rfl rfl|refine .box ?_|exact .nil|refine .cons ?_ ?_|exact .d|fail)
     exact .Ab2 (q.Af.length-1) CN
    ·cases ht:Fs (q.Af.take (q.Af.length-1)) (fun x=>decide (p.prio<x.prio)) with
     |none=>
      rw[ht] at hat2;have h':FnS Tryz.prog 210 [AD (pks (q.Af.take (q.Af.length-1))),.clo (B2 fun x=>decide (p.prio<x.prio))] [] (AI (-1)) []:=hat2;have ha:atP (q.Af.take (q.Af.length-1)) p.prio=((q.Af.take (q.Af.length-1))).length:=by rw[atP,ht];rfl
      repeat'(first|refine sB ?_|refine Ak rfl (by exact tt0) ?_|(refine gC ?_;first|refine AF [3,8] (h') (gk rfl) rfl (by(repeat'(first|exact .nil|refine .cons ?_ ?_|exact(Jx (by simp) rfl)|exact(.of0 (.c (A9 (by simp) rfl rfl (fun _=>rfl))))))<;>fail) (by rfl) rfl (by rfl) rfl (by rfl) rfl ?_|refine Cy [70] (H3 (q.Af.take (q.Af.length-1)) ((q.Af.take (q.Af.length-1))).length p (by omega) (Ag0 _)) (gk rfl) rfl rfl Ag rfl (by(repeat'(first|exact .nil|refine .cons ?_ ?_|exact .of0 (.c .d)|exact .of0 (.c (Gt (by decide) rfl rfl (by repeat'(first|exact tt0|refine⟨?_,?_⟩|rfl))))))<;>fail) rfl (by exact Ku (fun _=>rfl)) rfl (by(simp only[A0,wfL,AH,wfs];rfl)) rfl (by exact Bx) rfl ?_)|(refine gE ?_;first|refine BB (gk rfl) rfl rfl (by exact Al.symm) rfl rfl ?_)|refine Ap (by kernel_rfl) ?_|(refine gD ?_;first|refine Ai rfl ?_)|fail)
      rw[ha];refine Ao (Bm (l:=[(4,.c (.ptr 4 0)),(5,AD (pks [q.Af.getD (q.Af.length-1) default])),(6,AI 0)]) (b:=[(4,.box (Qu.cs ⟨q.Bk,Bq (q.Af.take (q.Af.length-1)) ((q.Af.take (q.Af.length-1))).length p⟩))]) (fun n=>n) [71001] hS ?_ ?_ rfl (by rfl)) (Bt Ab rfl rfl rfl rfl rfl rfl rfl rfl rfl)
      all_goals repeat'(first|exact tt0|refine⟨⟨_,rfl,?_⟩,?_⟩|exact .c .d|exact .c (.ptr rfl)|refine .box ?_|exact .nil|refine .cons ?_ ?_|exact .d|(refine .Cd (by(simp;done)) rfl ?_ (fun _=>rfl);((try dsimp only);first|(simp only[lns]<;>omega));done)|fail)
      all_goals(simp[Bq])
     |some i=>
      rw[ht] at hat2;have h':FnS Tryz.prog 210 [AD (pks (q.Af.take (q.Af.length-1))),.clo (B2 fun x=>decide (p.prio<x.prio))] [] (AI (i:Nat)) []:=hat2;have ha:atP (q.Af.take (q.Af.length-1)) p.prio=i:=by rw[atP,ht];rfl
      obtain⟨hi,_,_⟩:=BJ ht
      repeat'(first|refine sB ?_|refine Ak rfl (by exact tt0) ?_|(refine gC ?_;first|refine AF [3,8] (h') (gk rfl) rfl (by(repeat'(first|exact .nil|refine .cons ?_ ?_|exact(Jx (by simp) rfl)|exact(.of0 (.c (A9 (by simp) rfl rfl (fun _=>rfl))))))<;>fail) (by rfl) rfl (by rfl) rfl (by rfl) rfl ?_|refine Cy [70] (H3 (q.Af.take (q.Af.length-1)) i p (by omega) (Nat.le_of_lt hi)) (gk rfl) rfl rfl Ag rfl (by(repeat'(first|exact .nil|refine .cons ?_ ?_|exact .of0 (.c .d)|exact .of0 (.c (Gt (by decide) rfl rfl (by repeat'(first|exact tt0|refine⟨?_,?_⟩|rfl))))))<;>fail) rfl (by exact Ku (fun _=>rfl)) rfl (by(simp only[A0,wfL,AH,wfs];rfl)) rfl (by exact Bx) rfl ?_)|refine Ap (by kernel_rfl) ?_|(refine gD ?_;first|refine Ah rfl ?_)|fail)
      rw[ha];refine Ao (Bm (l:=[(4,.c (.ptr 4 0)),(5,AD (pks [q.Af.getD (q.Af.length-1) default])),(6,AI 0)]) (b:=[(4,.box (Qu.cs ⟨q.Bk,Bq (q.Af.take (q.Af.length-1)) i p⟩))]) (fun n=>n) [71001] hS ?_ ?_ rfl (by rfl)) (Bt Ab rfl rfl rfl rfl rfl rfl rfl rfl rfl)
      all_goals repeat'(first|exact tt0|refine⟨⟨_,rfl,?_⟩,?_⟩|exact .c .d|exact .c (.ptr rfl)|refine .box ?_|exact .nil|refine .cons ?_ ?_|exact .d|(refine .Cd (by(simp;done)) rfl ?_ (fun _=>rfl);((try dsimp only);first|(simp only[lns]<;>omega));done)|fail)
      all_goals(simp only[Bq,Agn,List.length_cons,Ags,Agv];simp only[Ags] at hi;omega)
   ·rw[AgY (by rw[<-GG];simp;omega),AgY (by omega)] at e;rw[e];refine VC.le (σ':=AS [(2,.c (.ptr 2 0)),(3,.c (.ptr 3 0)),(4,.c (.ptr 4 0)),(8,.c (.row 8 q.Af.length)),(9,AD (pks []))] [(2,.box q.cs),(3,.box p.cs),(4,.box noQ.cs),(8,.row 120 6 (rowOf Pk.enc q.Af))]) ?_ ?_
    ·refine Am (fun n=>if n=8 then 30007 else n) ?_ ?_ rfl (by(simp only[wfL,wfs];rfl))
     all_goals repeat'(first|exact tt0|refine⟨⟨_,rfl,?_⟩,?_⟩|exact .c (.ptr rfl)|exact .c (.row rfl rfl)|exact .c .nil|exact .Bs rfl rfl|exact .Bc rfl Ag|refine .box ?_|exact .nil|refine .cons ?_ ?_|exact .d|fail)
    ·cases ht:Fs q.Af (fun x=>decide (p.prio<x.prio)) with
     |none=>
      rw[ht] at hat;have h':FnS Tryz.prog 210 [AD (pks q.Af),.clo (B2 fun x=>decide (p.prio<x.prio))] [] (AI (-1)) []:=hat;have ha:atP q.Af p.prio=(q.Af).length:=by rw[atP,ht];rfl
      repeat'(first|refine sB ?_|refine Ak rfl (by exact tt0) ?_|(refine gC ?_;first|refine AF [3,8] (h') (gk rfl) rfl (by(repeat'(first|exact .nil|refine .cons ?_ ?_|exact(Jx (by simp) rfl)|exact(.of0 (.c (A9 (by simp) rfl rfl (fun _=>rfl))))))<;>fail) (by rfl) rfl (by rfl) rfl (by rfl) rfl ?_|refine Cy [70] (H3 q.Af (q.Af).length p (by omega) (Ag0 _)) (gk rfl) rfl rfl Ag rfl (by(repeat'(first|exact .nil|refine .cons ?_ ?_|exact .of0 (.c .d)|exact .of0 (.c (Gt (by decide) rfl rfl (by repeat'(first|exact tt0|refine⟨?_,?_⟩|rfl))))))<;>fail) rfl (by exact Ku (fun _=>rfl)) rfl (by(simp only[A0,wfL,AH,wfs];rfl)) rfl (by exact Bx) rfl ?_)|(refine gE ?_;first|refine BB (gk rfl) rfl rfl (by exact Al.symm) rfl rfl ?_)|refine Ap (by kernel_rfl) ?_|(refine gD ?_;first|refine Ai rfl ?_)|fail)
      rw[ha];refine Ao (Bm (l:=[(4,.c (.ptr 4 0)),(5,AD (pks [])),(6,AI 0)]) (b:=[(4,.box (Qu.cs ⟨q.Bk,Bq q.Af (q.Af).length p⟩))]) (fun n=>n) [71001] hS ?_ ?_ rfl (by rfl)) (Bt Ab rfl rfl rfl rfl rfl rfl rfl rfl rfl)
      all_goals repeat'(first|exact tt0|refine⟨⟨_,rfl,?_⟩,?_⟩|exact .c .d|exact .c (.ptr rfl)|refine .box ?_|exact .nil|refine .cons ?_ ?_|exact .d|(refine .Cd (by(simp;done)) rfl ?_ (fun _=>rfl);((try dsimp only);first|(simp only[lns]<;>omega));done)|fail)
      all_goals(simp[Bq])
     |some i=>
      rw[ht] at hat;have h':FnS Tryz.prog 210 [AD (pks q.Af),.clo (B2 fun x=>decide (p.prio<x.prio))] [] (AI (i:Nat)) []:=hat;have ha:atP q.Af p.prio=i:=by rw[atP,ht];rfl
      obtain⟨hi,_,_⟩:=BJ ht
      repeat'(first|refine sB ?_|refine Ak rfl (by exact tt0) ?_|(refine gC ?_;first|refine AF [3,8] (h') (gk rfl) rfl (by(repeat'(first|exact .nil|refine .cons ?_ ?_|exact(Jx (by simp) rfl)|exact(.of0 (.c (A9 (by simp) rfl rfl (fun _=>rfl))))))<;>fail) (by rfl) rfl (by rfl) rfl (by rfl) rfl ?_|refine Cy [70] (H3 q.Af i p (by omega) (Nat.le_of_lt hi)) (gk rfl) rfl rfl Ag rfl (by(repeat'(first|exact .nil|refine .cons ?_ ?_|exact .of0 (.c .d)|exact .of0 (.c (Gt (by decide) rfl rfl (by repeat'(first|exact tt0|refine⟨?_,?_⟩|rfl))))))<;>fail) rfl (by exact Ku (fun _=>rfl)) rfl (by(simp only[A0,wfL,AH,wfs];rfl)) rfl (by exact Bx) rfl ?_)|refine Ap (by kernel_rfl) ?_|(refine gD ?_;first|refine Ah rfl ?_)|fail)
      rw[ha];refine Ao (Bm (l:=[(4,.c (.ptr 4 0)),(5,AD (pks [])),(6,AI 0)]) (b:=[(4,.box (Qu.cs ⟨q.Bk,Bq q.Af i p⟩))]) (fun n=>n) [71001] hS ?_ ?_ rfl (by rfl)) (Bt Ab rfl rfl rfl rfl rfl rfl rfl rfl rfl)
      all_goals repeat'(first|exact tt0|refine⟨⟨_,rfl,?_⟩,?_⟩|exact .c .d|exact .c (.ptr rfl)|refine .box ?_|exact .nil|refine .cons ?_ ?_|exact .d|(refine .Cd (by(simp;done)) rfl ?_ (fun _=>rfl);((try dsimp only);first|(simp only[lns]<;>omega));done)|fail)
      all_goals(simp only[Bq,Agn,List.length_cons,Ags,Agv];simp only[Ags] at hi;omega)
  ·have e:EW q p=(noQ,[],Ft p):=by rw[EW,AgY (by omega),AgZ hf]
   have hd:decide (Ft p≠0)=true:=by simp[hf]
   rw[e]
   repeat'(first|refine sB ?_|refine Ak rfl (by exact tt0) ?_|(refine gC ?_;first|refine Aa (hck) (gk rfl) rfl rfl rfl (by rfl) rfl (by rfl) rfl ?_|refine Aa (hfm) (gk rfl) rfl rfl rfl (by rfl) rfl (by rfl) rfl ?_)|(refine gD ?_;first|refine Ai rfl ?_|refine Ah rfl ?_|refine At rfl (by assumption) ?_)|fail)
   refine Ao (Am (l:=[(4,.c (.ptr 4 0)),(5,AD (pks [])),(6,AI (Ft p))]) (b:=[(4,.box noQ.cs)]) (fun n=>n) ?_ ?_ rfl (by rfl)) (Bt Ab rfl rfl rfl rfl rfl rfl rfl rfl rfl)
   all_goals repeat'(first|exact tt0|refine⟨⟨_,rfl,?_⟩,?_⟩|exact .c .d|exact .c (.ptr rfl)|exact .c .nil|refine .box ?_|exact .nil|refine .cons ?_ ?_|exact .d|fail)
 ·have e:EW q p=(noQ,[],1):=by rw[EW,AgZ hc]
  have hd:decide (Br q≠0)=true:=by simp[hc]
  rw[e]
  repeat'(first|refine sB ?_|refine Ak rfl (by exact tt0) ?_|(refine gC ?_;first|refine Aa (hck) (gk rfl) rfl rfl rfl (by rfl) rfl (by rfl) rfl ?_)|(refine gD ?_;first|refine Ai rfl ?_|refine At rfl (by assumption) ?_)|fail)
  refine Ao (Am (l:=[(4,.c (.ptr 4 0)),(5,AD (pks [])),(6,AI 1)]) (b:=[(4,.box noQ.cs)]) (fun n=>n) ?_ ?_ rfl (by rfl)) (Bt Ab rfl rfl rfl rfl rfl rfl rfl rfl rfl)
  all_goals repeat'(first|exact tt0|refine⟨⟨_,rfl,?_⟩,?_⟩|exact .c .d|exact .c (.ptr rfl)|exact .c .nil|refine .box ?_|exact .nil|refine .cons ?_ ?_|exact .d|fail)

def noP:Pk:=⟨0,0,0,0,0,⟨#[]⟩⟩
def DS (q:Qu) (to:Int):Pk×Bool:=if Br q≠0 then(noP,false) else match Qn q.Af to with
 |none=>(noP,false)
 |some i=>(q.Af.getD i default,true)
theorem TG {q:Qu} {to:Int} (h:¬Br q=0):DS q to=(noP,false):=by rw[DS,AgZ h]
theorem Hy {q:Qu} {to:Int} (h:Br q=0) (hf:Qn q.Af to=none):DS q to=(noP,false):=by rw[DS,AgY (by omega),hf]
theorem Hx {q:Qu} {to:Int} {i:Nat} (h:Br q=0) (hf:Qn q.Af to=some i):DS q to=(q.Af.getD i default,true):=by rw[DS,AgY (by omega),hf]
set_option maxHeartbeats 1000000 in
theorem L7 (q:Qu) (to:Int):FnS Tryz.prog 284 [quA q,AI to] [] (.tup [pkA (DS q to).1,AB (DS q to).2]) []:=by
 have hck:=ER q;have hfi:=TF q.Af to;refine fb Tryz.func284 (by kernel_rfl) rfl Tryz.ntmps284 Tryz.results284 rfl rfl rfl rfl fun E hS=>?_
 refine AJ ?_;by_cases hc:Br q=0
 ·rw[hc] at hck;have hl:=CP hc;cases hf:Qn q.Af to with
  |none=>
   rw[hf] at hfi;have hfi':FnS Tryz.prog 307 [AD (pks q.Af),AI to] [] (AI (-1)) []:=hfi;rw[Hy hc hf]
   repeat'(first|refine sB ?_|refine Ak rfl (by exact tt0) ?_|(refine gC ?_;first|refine Aa (hck) (gk rfl) rfl rfl rfl (by rfl) rfl (by rfl) rfl ?_|refine Aa (hfi') (gk rfl) rfl rfl rfl (by rfl) rfl (by rfl) rfl ?_)|(refine gD ?_;first|refine Ah rfl ?_)|fail)
   refine Ao (Am (l:=[(4,.c (.ptr 4 0)),(5,AB false)]) (b:=[(4,.box noP.cs)]) (fun n=>n) ?_ ?_ rfl (by rfl)) (AL Ab rfl rfl rfl rfl rfl rfl rfl)
   all_goals repeat'(first|exact tt0|refine⟨⟨_,rfl,?_⟩,?_⟩|exact .c .d|exact .c (.ptr rfl)|exact .Bs rfl rfl|fail)
  |some i=>
   rw[hf] at hfi;have hfi':FnS Tryz.prog 307 [AD (pks q.Af),AI to] [] (AI (i:Nat)) []:=hfi;obtain⟨hi,_,_⟩:=BJ hf;rw[Hx hc hf]
   repeat'(first|refine sB ?_|refine Ak rfl (by exact tt0) ?_|(refine gC ?_;first|refine Aa (hck) (gk rfl) rfl rfl rfl (by rfl) rfl (by rfl) rfl ?_|refine Aa (hfi') (gk rfl) rfl rfl rfl (by rfl) rfl (by rfl) rfl ?_)|(refine gI ?_;first|refine Au (gk rfl) rfl rfl rfl rfl rfl (by omega) rfl ?_)|(refine gD ?_;first|refine Ai rfl ?_|refine Ah rfl ?_)|fail)
   all_goals first
    |(exfalso;omega)
    |skip
   refine Ao (Am (l:=[(4,.c (.ptr 4 0)),(5,AB true)]) (b:=[(4,.box (q.Af.getD i default).cs)]) (fun n=>n) ?_ ?_ rfl (by rfl)) (AL Ab rfl rfl rfl rfl rfl rfl rfl)
   all_goals repeat'(first|exact tt0|refine⟨⟨_,rfl,?_⟩,?_⟩|exact .c .d|exact .c (.ptr rfl)|exact .Bs rfl rfl|fail)
 ·rw[TG hc];have hd:decide (Br q≠0)=true:=by simp[hc]
  repeat'(first|refine sB ?_|refine Ak rfl (by exact tt0) ?_|(refine gC ?_;first|refine Aa (hck) (gk rfl) rfl rfl rfl (by rfl) rfl (by rfl) rfl ?_)|(refine gD ?_;first|refine Ai rfl ?_|refine At rfl (by assumption) ?_)|fail)
  refine Ao (Am (l:=[(4,.c (.ptr 4 0)),(5,AB false)]) (b:=[(4,.box noP.cs)]) (fun n=>n) ?_ ?_ rfl (by rfl)) (AL Ab rfl rfl rfl rfl rfl rfl rfl)
  all_goals repeat'(first|exact tt0|refine⟨⟨_,rfl,?_⟩,?_⟩|exact .c .d|exact .c (.ptr rfl)|exact .Bs rfl rfl|fail)
theorem MU {n:Nat} {f:Nat->Int} (h:Dl n f=0) {i:Nat} (hi:i<n):f i=0:=by
 unfold Dl at h;cases hf:(List.range n).find? (fun i=>f i != 0) with
 |none=>have:=List.find?_eq_none.1 hf i (AgQ.2 hi);simpa using this
 |some k=>
  rw[hf] at h;have:=List.find?_some hf;simp at this;exact absurd h this
theorem TS {q:Qu} (h:Br q=0) {k:Nat} (hk:k<q.Af.length):IH q.Af k=0:=by
 obtain⟨h1,h2,h3⟩:=CP h;unfold Br at h;rw[AgY (by simp[inI];omega),AgY (by omega)] at h;exact MU h hk
theorem El {q:Qu} (h:Br q=0) {k:Nat} (hk:k<q.Af.length):
  Ft (q.Af.getD k default)=0/\(∀i,i<k->(q.Af.getD i default).id≠(q.Af.getD k default).id)/\(0<k->(q.Af.getD (k-1) default).prio<=(q.Af.getD k default).prio):=by
 have:=TS h hk;unfold IH at this
 split at this
 ·rename_i h1;exact absurd this h1
 ·rename_i h1
  split at this
  ·cases this
  ·rename_i h2
   split at this
   ·cases this
   ·rename_i h3;refine⟨by omega,fun i hi e=>h2 ?_,fun h0=>by omega⟩;rw[AgB];refine⟨q.Af.getD i default,?_,Agj e⟩;rw[Agi,Agr (by omega)];exact List.mem_take_iff_getElem.2 ⟨i,by omega,rfl⟩
theorem O7 {q:Qu} (h:Br q=0) {i j:Nat} (hi:i<q.Af.length) (hj:j<q.Af.length) (hij:i≠j):(q.Af.getD i default).id≠(q.Af.getD j default).id:=by
 rcases Nat.lt_or_gt_of_ne hij with hlt|hlt
 ·exact(El h hj).2.1 i hlt
 ·exact fun e=>(El h hi).2.1 j hlt e.symm
def IA (q:Qu) (id:Int):Qu×Pk×Int:=if Br q≠0 then(noQ,noP,1) else match OF q.Af id with
 |none=>(noQ,noP,7)
 |some i=>(⟨q.Bk,q.Af.eraseIdx i⟩,q.Af.getD i default,0)
theorem Ur {q:Qu} {to:Int} (h:¬Br q=0):IA q to=(noQ,noP,1):=by rw[IA,AgZ h]
theorem SL {q:Qu} {to:Int} (h:Br q=0) (hf:OF q.Af to=none):IA q to=(noQ,noP,7):=by rw[IA,AgY (by omega),hf]
theorem Lp {q:Qu} {to:Int} {i:Nat} (h:Br q=0) (hf:OF q.Af to=some i):IA q to=(⟨q.Bk,q.Af.eraseIdx i⟩,q.Af.getD i default,0):=by rw[IA,AgY (by omega),hf]
set_option maxHeartbeats 1000000 in
theorem Uq (q:Qu) (id:Int):FnS Tryz.prog 290 [quA q,AI id] [] (.tup [quA (IA q id).1,pkA (IA q id).2.1,AI (IA q id).2.2]) []:=by
 have hck:=ER q;have hix:=Kb q id;refine fb Tryz.func290 (by kernel_rfl) rfl Tryz.ntmps290 Tryz.results290 rfl rfl rfl rfl fun E hS=>?_
 refine AJ ?_;by_cases hc:Br q=0
 ·rw[hc] at hck;have hl:=CP hc;cases hf:OF q.Af id with
  |none=>
   rw[hf] at hix;have hix':FnS Tryz.prog 271 [quA q,AI id] [] (AI (-1)) []:=hix;rw[SL hc hf]
   repeat'(first|refine sB ?_|refine Ak rfl (by exact tt0) ?_|(refine gC ?_;first|refine Aa (hck) (gk rfl) rfl rfl rfl (by rfl) rfl (by rfl) rfl ?_|refine Aa (hix') (gk rfl) rfl rfl rfl (by rfl) rfl (by rfl) rfl ?_)|(refine gD ?_;first|refine Ai rfl ?_|refine Ah rfl ?_)|fail)
   refine Ao (Am (l:=[(4,.c (.ptr 4 0)),(5,.c (.ptr 5 0)),(6,AI 7)]) (b:=[(4,.box noQ.cs),(5,.box noP.cs)]) (fun n=>n) ?_ ?_ rfl (by rfl)) (Ba Ab rfl rfl rfl rfl rfl rfl rfl rfl rfl rfl rfl rfl)
   all_goals repeat'(first|exact tt0|refine⟨⟨_,rfl,?_⟩,?_⟩|exact .c .d|exact .c (.ptr rfl)|exact .Bs rfl rfl|refine .box ?_|exact .nil|refine .cons ?_ ?_|exact .d|fail)
  |some i=>
   rw[hf] at hix;have hix':FnS Tryz.prog 271 [quA q,AI id] [] (AI (i:Nat)) []:=hix;obtain⟨hi,_,_⟩:=BJ hf;rw[Lp hc hf]
   repeat'(first|refine sB ?_|refine Ak rfl (by first|exact tt0|omega) ?_|(refine gC ?_;first|refine Aa (hck) (gk rfl) rfl rfl rfl (by rfl) rfl (by rfl) rfl ?_|refine Aa (hix') (gk rfl) rfl rfl rfl (by rfl) rfl (by rfl) rfl ?_|refine Aa (GU q.Af (by omega)) (gk rfl) rfl rfl rfl (by(simp only[A0,wfL,AH,wfs];rfl)) rfl (by exact Bx) rfl ?_|refine Cy [] (Wa q.Af i hi (by omega)) (gk rfl) rfl rfl Ag rfl (by(repeat'(first|exact .nil|refine .cons ?_ ?_|exact .of0 (.c .d)))<;>fail) rfl (by rfl) rfl (by(simp only[A0,wfL,AH,wfs];rfl)) rfl (by exact Bx) rfl ?_)|(refine gI ?_;first|refine Au (gk rfl) rfl rfl rfl rfl rfl (by omega) rfl ?_)|refine Ap (by kernel_rfl) ?_|(refine gD ?_;first|refine Ah rfl ?_)|fail)
   all_goals first
    |(exfalso;omega)
    |skip
   refine Ao (Bm (l:=[(4,.c (.ptr 4 0)),(5,.c (.ptr 5 0)),(6,AI 0)]) (b:=[(4,.box (Qu.cs ⟨q.Bk,q.Af.eraseIdx i⟩)),(5,.box (q.Af.getD i default).cs)]) (fun n=>n) [28000] hS ?_ ?_ rfl (by rfl)) (Ba Ab rfl rfl rfl rfl rfl rfl rfl rfl rfl rfl rfl rfl)
   all_goals repeat'(first|exact tt0|refine⟨⟨_,rfl,?_⟩,?_⟩|exact .c .d|exact .c (.ptr rfl)|exact .Bs rfl rfl|refine .box ?_|exact .nil|refine .cons ?_ ?_|exact .d|fail)
   exact .Cd (by simp) rfl (List.length_eraseIdx_of_lt hi).symm (fun _=>rfl)
 ·rw[Ur hc];have hd:decide (Br q≠0)=true:=by simp[hc]
  repeat'(first|refine sB ?_|refine Ak rfl (by exact tt0) ?_|(refine gC ?_;first|refine Aa (hck) (gk rfl) rfl rfl rfl (by rfl) rfl (by rfl) rfl ?_)|(refine gD ?_;first|refine Ai rfl ?_|refine At rfl (by assumption) ?_)|fail)
  refine Ao (Am (l:=[(4,.c (.ptr 4 0)),(5,.c (.ptr 5 0)),(6,AI 1)]) (b:=[(4,.box noQ.cs),(5,.box noP.cs)]) (fun n=>n) ?_ ?_ rfl (by rfl)) (Ba Ab rfl rfl rfl rfl rfl rfl rfl rfl rfl rfl rfl rfl)
  all_goals repeat'(first|exact tt0|refine⟨⟨_,rfl,?_⟩,?_⟩|exact .c .d|exact .c (.ptr rfl)|exact .Bs rfl rfl|refine .box ?_|exact .nil|refine .cons ?_ ?_|exact .d|fail)
theorem V0 (x:Pk) (t:Int):FnS Tryz.prog 218 [pkA x,.ep (fun _=>.int .i64 t) 1] [] (AB (Gf x t)) []:=by
 refine fb Tryz.func218 (by kernel_rfl) rfl Tryz.ntmps218 Tryz.results218 rfl rfl rfl rfl fun E hS=>?_
 repeat'(first|refine sB ?_|refine Ak rfl (by exact tt0) ?_|(refine gC ?_;first|refine Aa (Lq _ _) (gk rfl) rfl rfl rfl (by rfl) rfl (by rfl) rfl ?_)|fail)
 all_goals exact Aw Ab rfl rfl
theorem X7 {σ:St} {t:Int} {n1:Nat} {L:List Nat} (hL:n1∈L) (h1:σ (.b n1)=some (.k (.box [.d (.int .i64 t)]))):AR Tryz.prog σ L (.fnc 218 [.ptr n1 0]) (.clo (B2 fun x=>Gf x t)):=
 .fnc (eps:=[.ep (fun _=>.int .i64 t) 1]) (.cons (.ptr hL h1 (fun j hj=>by
  have:j=0:=by omega
  subst this;rfl)) .nil) (enters_of Tryz.func218 (by kernel_rfl) rfl)
  (by rintro _ _ ⟨x,rfl,rfl⟩;exact⟨rfl,V0 x t⟩)
theorem VZ (x:Pk) (t:Int):FnS Tryz.prog 220 [pkA x,.ep (fun _=>.int .i64 t) 1] [] (AB (!Gf x t)) []:=by
 refine fb Tryz.func220 (by kernel_rfl) rfl Tryz.ntmps220 Tryz.results220 rfl rfl rfl rfl fun E hS=>?_
 repeat'(first|refine sB ?_|refine Ak rfl (by exact tt0) ?_|(refine gC ?_;first|refine Aa (Lq _ _) (gk rfl) rfl rfl rfl (by rfl) rfl (by rfl) rfl ?_)|fail)
 all_goals exact Aw Ab rfl rfl
theorem X6 {σ:St} {t:Int} {n1:Nat} {L:List Nat} (hL:n1∈L) (h1:σ (.b n1)=some (.k (.box [.d (.int .i64 t)]))):AR Tryz.prog σ L (.fnc 220 [.ptr n1 0]) (.clo (B2 fun x=>!Gf x t)):=
 .fnc (eps:=[.ep (fun _=>.int .i64 t) 1]) (.cons (.ptr hL h1 (fun j hj=>by
  have:j=0:=by omega
  subst this;rfl)) .nil) (enters_of Tryz.func220 (by kernel_rfl) rfl)
  (by rintro _ _ ⟨x,rfl,rfl⟩;exact⟨rfl,VZ x t⟩)
def RW (l:List Pk) (slot:Int):List Pk:=l.filter fun x=>!Gf x slot
def UC (l:List Pk) (slot:Int):List Pk:=l.filter fun x=>Gf x slot
def C1 (q:Qu) (slot:Int):Qu×List Pk:=if Br q≠0 then(q,[]) else(⟨q.Bk,RW q.Af slot⟩,UC q.Af slot)
set_option maxHeartbeats 1000000 in
theorem QG (q:Qu) (slot:Int):FnS Tryz.prog 163 [quA q,AI slot] [] (.tup [quA (C1 q slot).1,AD (pks (C1 q slot).2)]) []:=by
 have hck:=ER q;refine fb Tryz.func163 (by kernel_rfl) rfl Tryz.ntmps163 Tryz.results163 rfl rfl rfl rfl fun E hS=>?_
 refine AJ ?_;by_cases hc:Br q=0
 ·rw[hc] at hck;have hl:=CP hc;have hd1:=Y3 q.Af (fun x=>Gf x slot) (by omega);have hd2:=Y3 q.Af (fun x=>!Gf x slot) (by omega);have e2:(q.Af.filter fun x=>!!Gf x slot)=UC q.Af slot:=by simp only[Bool.not_not];rfl
  rw[e2] at hd2;rw[C1,AgY (by omega)]
  repeat'(first|refine sB ?_|refine Ak rfl (by exact tt0) ?_|(refine gC ?_;first|refine Aa (hck) (gk rfl) rfl rfl rfl (by rfl) rfl (by rfl) rfl ?_|refine Aa (GU q.Af (by omega)) (gk rfl) rfl rfl rfl (by(simp only[A0,wfL,AH,wfs];rfl)) rfl (by exact Bx) rfl ?_|refine Cy [3] (hd1) (gk rfl) rfl rfl Ag rfl (.cons (X7 (Agx.2 rfl) rfl) .nil) rfl (by exact Ku (fun _=>rfl)) rfl (by(simp only[A0,wfL,AH,wfs];rfl)) rfl (by exact Bx) rfl ?_|refine Cy [3] (hd2) (gk rfl) rfl rfl Ag rfl (.cons (X6 (Agx.2 rfl) rfl) .nil) rfl (by exact Ku (fun _=>rfl)) rfl (by(simp only[A0,wfL,AH,wfs];rfl)) rfl (by exact Bx) rfl ?_)|refine Ap (by kernel_rfl) ?_|(refine gD ?_;first|refine Ah rfl ?_)|fail)
  refine Ao (Bm (l:=[(4,.c (.ptr 4 0)),(5,AD (pks (UC q.Af slot)))]) (b:=[(4,.box (Qu.cs ⟨q.Bk,RW q.Af slot⟩))]) (fun n=>n) [20000,26000] hS ?_ ?_ rfl (by rfl)) (AL Ab rfl rfl rfl rfl rfl rfl rfl)
  all_goals repeat'(first|exact tt0|refine⟨⟨_,rfl,?_⟩,?_⟩|exact .c (.ptr rfl)|exact .c (.Cd (by(simp;done)) rfl rfl (fun _=>rfl))|refine .box ?_|exact .nil|refine .cons ?_ ?_|exact .d|exact .Cd (by(simp;done)) rfl rfl (fun _=>rfl)|fail)
 ·rw[C1,AgZ hc];have hd:decide (Br q≠0)=true:=by simp[hc]
  repeat'(first|refine sB ?_|refine Ak rfl (by exact tt0) ?_|(refine gC ?_;first|refine Aa (hck) (gk rfl) rfl rfl rfl (by rfl) rfl (by rfl) rfl ?_)|(refine gD ?_;first|refine Ai rfl ?_|refine At rfl (by assumption) ?_)|fail)
  refine Ao (Am (l:=[(4,.c (.ptr 4 0)),(5,AD (pks []))]) (b:=[(4,.box q.cs)]) (fun n=>n) ?_ ?_ rfl (by rfl)) (AL Ab rfl rfl rfl rfl rfl rfl rfl)
  all_goals repeat'(first|exact tt0|refine⟨⟨_,rfl,?_⟩,?_⟩|exact .c (.ptr rfl)|exact .c .nil|exact .Bs rfl rfl|fail)

end Go.Proofs.Q
end
