/-
  Functions' results, and laws on them. No condition.
-/
import Derived.Test.YtdlcbilgemnomaaGreatSxT30
import Derived.RangeFuncNested
import Derived.RangeFuncBound
import Derived.RangeFuncCalls
import Derived.RangeFuncLeaves
import Derived.RangeFuncBox
import Derived.Shelf.Abstract
import Derived.Shelf.RegionOpen
import Derived.OwnWalkIn
import Derived.TacticsInMore
import Derived.LoopNIn
import Derived.LoopIn
set_option linter.unusedSimpArgs false
set_option linter.unusedVariables false
set_option maxHeartbeats 16000000
open Go.Proofs.Tryz
namespace Go.Proofs.M
open Go Go.Sx Go.RowKit Go.Shelf
attribute [local go_sem] Oper.semAt_some
theorem Aim:(Tryz.prog.info? 136).map (fun i=>(i.zero,i.size,i.bytes))=some (some (.pointer none),1,8):=by kernel_rfl
theorem Nj {own:TypeId->Prop} (h133:¬own 133) (h136:¬own 136) {g:Nat} {lb:Array Value} (eg:∀args w,(callFunc g args).run Tryz.prog w=.ok (.enter g args) w) {S:List Nat->Prop} {N:Nat} (hN:N<=1000000) {w:World}
  (hseq:AhC own Tryz.prog g lb (fun x:Nat=>#[pvo x 0]) S N w):
  Calls Tryz.prog 173 #[.slice none 0 0,.func (.func g) #[] lb] w fun e w'=>∃v xs,e=.returned v/\S xs/\w'.ownsRow w.heap.size 136 1 v xs.length (xs.map fun x=>pvo x 0)/\(v=.slice none 0 0↔xs=[])/\Below w.heap.size w w':=by
 refine(callsIn_wide (n:=3)).1 ?_;refine callsIn_of_wp_marks func173 rfl trivial ?_ rfl;simp only[ntmps173,List.size_toArray,Akx,List.length_nil,Nat.reduceAdd,Nat.reduceSub,Array.replicate_succ,Array.replicate_zero,List.push_toArray,List.append_toArray,Akp,Akt]
 gi_wp2
 have hB:=Boxed.new w 133 (.slice none 0 0);have ht0:Below w.heap.size w (w.alloc (.cells #[.slice none 0 0] 133)):=(Below.refl _ w).alloc (Akd _) _;refine KV (gf:=g) (lb:=lb) rfl eg hseq ht0 (fun _=>rfl)
  (fun pre W=>(∃v,Boxed W w.heap.size 133 v/\W.ownsRow w.heap.size 136 1 v pre.length (pre.map fun x=>pvo x 0)/\(v=.slice none 0 0↔pre=[]))/\Below w.heap.size w W)
  ?hI ?h0 (fun x=>{tmps:=#[.slice none 0 0,.func (.func g) #[] lb,.pointer (some ⟨w.heap.size,0,none⟩),undef,.slice none 0 0,pvo x 0,.func (.func g) #[] lb,pvo x 0,undef,undef,undef,undef,undef],defers:=[]}) ?assign ?body ?done
 case hI=>
  rintro s W0 W1 ⟨⟨v,hv,hrow,hnil⟩,hbel⟩ ht;have hne:∀b us T fz,W0.heap[b]?=some (Obj.cells us T fz)->¬own T->W1.heap[b]?=some (Obj.cells us T fz):=fun b us T fz hb ho=>ht.block b _ hb fun h=>by
   rcases h.2 with h|⟨_,_,_,e,h⟩
   ·cases h
   ·cases e;exact ho h
  refine⟨⟨v,hne _ _ _ _ hv h133,⟨hrow.1,?_⟩,hnil⟩,hbel.trans (ht.below hbel.size fun b o h=>by have:=h.1;simp at this;omega)⟩;rcases hrow.2 with h|⟨g2,cap2,cur2,e0,hgB,hgb,hr⟩
  ·exact .inl h
  ·exact .inr ⟨g2,cap2,cur2,e0,hgB,hne _ _ _ _ hgb h136,hr⟩
 case h0=>exact⟨⟨_,hB,World.ownsRow_nil ..,by simp⟩,ht0⟩
 case assign=>
  intro l m x W K hK
  gi_wp2
  exact hK
 case body=>
  rintro l m pre x W ⟨⟨v,hv,hrow,hnil⟩,hbel⟩ hlen;have hu:Tryz.prog.underlying 133=some (.slice 136):=Tryz.XX.slice rfl;obtain⟨i0,hi,hz0,hz1,hz2⟩:=info_parts Aim;have hc:=hv.cell;have hf:=hv.frozen
  gi_wp2_with (first
   |(gi_at_builtin;refine wpListIn_append_own _ rfl _ _ 133 rfl w.heap.size 136 i0 (.pointer none) 1 8 hu hi hz0 hz1 hz2 rfl (by decide) _ _ _ rfl (hrow.alloc _) ⟨W.heap.size,0,none⟩ 1 1 [pvo x 0] rfl rfl (cell_one_new _ _ _) (by simp[Value.oneCell']) (by unfold maxLen at *;omega) (by omega) (by have:=hbel.size;simp;omega) ?_;intro v' w1 hown' hgrow _
     obtain⟨g',cap',rfl⟩:=ownsRow_succ hown';obtain⟨hv1,hv2,hr2,hk2,hb2⟩:=hv.appended (by decide) hrow hbel.size (Akd _) hown' hgrow;have hc1:=hv1.cell;have hf1:=hv1.frozen)
   |gi_in)
  refine⟨?_,⟨_,hv2,by simpa using hr2,by simp⟩,hbel.trans hb2⟩;refine((HY.alloc _ W _).trans (HY.grown hgrow fun r o e ho=>?_)).trans (HY.grown (grownBy_setCell' w1 w.heap.size _) fun r o e ho=>?_)
  ·rcases (hrow.alloc _).2 with⟨e0,_⟩|⟨g2,cap2,cur2,e0,hgB,hgb,_⟩
   ·subst e0;cases e
   ·subst e0;have e2:some g2=some r:=e;cases e2;rw[hgb] at ho;cases ho;exact⟨hgB,fun⟨_,_,_,e3,h4⟩=>by cases e3;exact h136 h4⟩
  ·cases e;rw[show w1.heap[w.heap.size]?=_ from hv1] at ho;cases ho;exact⟨Akd _,fun⟨_,_,_,e3,h4⟩=>by cases e3;exact h133 h4⟩
 case done=>
  rintro D xs W hD hS ⟨⟨v,hv,hrow,hnil⟩,hbel⟩ hK;have hc:=hv.cell
  gi_wp2
  refine⟨by simp,.inl ⟨_,_,rfl,run_takeDeferred hK,?_⟩⟩;refine⟨_,results_tmp rfl _ _ _,v,xs,rfl,hS,ownsRow_putObj hrow _ hK rfl,hnil,?_⟩;exact hbel.trans (belowK_b (w:=w) (Akd _) W D _ _ (by simp at hD;omega) hK rfl rfl)
theorem Ui {own:TypeId->Prop} (h133:¬own 133) (h136:¬own 136) {g:Nat} {lb:Array Value} (eg:∀args w,(callFunc g args).run Tryz.prog w=.ok (.enter g args) w) {S:List Nat->Prop} {N:Nat} (hN:N<=1000000) {w:World}
  (hseq:AhC own Tryz.prog g lb (fun x:Nat=>#[pvo x 0]) S N w):
  Calls Tryz.prog 128 #[.func (.func g) #[] lb] w fun e w'=>∃v,e=.returned v/\∃xs,S xs/\w'.ownsRow w.heap.size 136 1 v xs.length (xs.map fun x=>pvo x 0)/\Below w.heap.size w w':=by
 have hc:Calls Tryz.prog 173 #[.slice none 0 0,.func (.func g) #[] lb] w fun e w'=>∃v,e=.returned v/\∃xs,S xs/\w'.ownsRow w.heap.size 136 1 v xs.length (xs.map fun x=>pvo x 0)/\Below w.heap.size w w':=
  Calls.mono (Nj h133 h136 eg hN hseq) fun e w' ⟨v,xs,h1,h2,h3,_,h5⟩=>⟨v,h1,xs,h2,h3,h5⟩
 refine(callsIn_wide (n:=3)).1 ?_;refine callsIn_of_wp func128 rfl trivial ?_ rfl;simp only[ntmps128,List.size_toArray,Akx,List.length_nil,Nat.reduceAdd,Nat.reduceSub,Array.replicate_succ,Array.replicate_zero,List.push_toArray,List.append_toArray,Akp,Akt]
 gi_wp2
 refine⟨tt0,callsIn_wide.2 (Calls.mono hc ?_)⟩;rintro e w' ⟨v,rfl,xs,hS,hrow,hbel⟩
 gi_wp2
 exact⟨by simp,_,results_tmp rfl _ _ _,v,rfl,xs,hS,hrow,hbel⟩
def Ot (b:Nat):List D:=[.raw (pvo b 0)]
theorem Abm {ρ:Nat->RI} {w:World} {Im:Nat->Prop} (xs:List Nat):Bh (Cf ρ w Im) (rowOf Ot xs).flatten (xs.map fun x=>pvo x 0):=by
 induction xs with
 |nil=>exact .nil
 |cons x xs ih=>exact .cons ⟨rfl,rfl⟩ ih
theorem QA {w:World} {base T n:Nat} {v:Value} {xs:List Nat} (h:w.ownsRow base T 1 v n (xs.map fun x=>pvo x 0)):
  ∃r:RI,v=(if r.isNil then .slice none 0 0 else .slice (some ⟨r.blk,0,none⟩) n r.cap)/\(r.isNil=true\/(base<=r.blk/\r.blk<w.heap.size))/\n=xs.length /\
   ∀(ρ:Nat->RI) (Im:Nat->Prop) (nm:Nat),BQ (E2 ρ nm r) w Im nm (.row T 1 (rowOf Ot xs)):=by
 obtain⟨hl,h⟩:=h;have hn:n=xs.length:=by simpa using hl.symm
 rcases h with⟨rfl,h0⟩|⟨g,cap,cur,rfl,hg,hh,hle,hmax,hsz,htk⟩
 ·refine⟨⟨0,0,true⟩,rfl,.inl rfl,hn,fun ρ Im nm=>?_⟩;have:xs=[]:=List.length_eq_zero_iff.1 (by omega);subst this;unfold BQ;simp[E2,rowOf]
 ·refine⟨⟨g,cap,false⟩,rfl,.inr ⟨hg,(Array.getElem?_eq_some_iff.1 hh).1⟩,hn,fun ρ Im nm=>?_⟩;have hnew:E2 ρ nm ⟨g,cap,false⟩ nm=⟨g,cap,false⟩:=by simp[E2]
  unfold BQ;rw[hnew];simp only[Akr,if_false];refine⟨xs.map fun x=>pvo x 0,cur.toList.drop n,?_,?_,?_,?_,?_,hmax⟩
  ·rw[hh]
   congr 2
   rw[Nat.mul_one] at htk;rw[<-htk,AjS]
  ·exact Abm xs
  ·intro x hx;obtain⟨b,_,rfl⟩:=Aj5.1 hx
   rfl
  ·simp only[AjK,AjG,Array.length_toList];omega
  ·rw[An,<-hn];exact hle
end Go.Proofs.M
namespace Go.Proofs.T
open Go Go.Sx
set_option maxRecDepth 4000
attribute [local irreducible] VR VC thenQ blockQ retL
def IW (a b:Int):Int:=if a<b then -1 else if b<a then 1 else 0
theorem Ik (a:Int):Ak 209 [AI a] (AB false):=by
 refine Ao func209 ntmps209 results209 fun E hS=>?_
 repeat'(first|refine Ad ?_|fail)
 all_goals exact Aq Ae rfl (by simp)
theorem Iv (a b:Int):Ak 154 [AI a,AI b] (AI (IW a b)):=by
 refine Ao func154 ntmps154 results154 fun E hS=>?_
 repeat'(first|refine Ad ?_|refine Am (Ik _) ?_|(refine Av ?_ ?_<;>intro h hq)|fail)
 all_goals refine Aw Ae rfl ?_
 all_goals unfold IW
 all_goals repeat' split
 all_goals first|rfl|(exfalso;simp_all;done)|(exfalso;omega)|trace_state
def orI:List Int->Int
 |[]=>0
 |x :: l=>if x≠0 then x else orI l
abbrev ints (l:List Int):D:=Hj (fun x=>[.int .i64 x]) 1 l
theorem Mp:∀(l:List Int) (k:Nat),(∀i,i<k->l.getD i 0=0)->k<=l.length->orI l=orI (l.drop k)
 |l,0,_,_=>rfl
 |[],k+1,_,h=>absurd h (by simp)
 |x :: l,k+1,h,hk=>by
  have h0:x=0:=h 0 (by omega);rw[Alg,<-Mp l k (fun i hi=>h (i+1) (by omega)) (by simpa using hk)];simp[orI,h0]
theorem Tz (l:List Int):Ak 153 [AD (ints l)] (AI (orI l)):=by
 refine Ao func153 ntmps153 results153 fun E hS=>?_
 refine Bz (t:=0) rfl fun hb=>?_
 repeat'(first|refine Af ?_|fail)
 refine Ax (ι:=Nat) (fun k=>AN [(3,AI 0),(6,AD (ints l)),(7,AI l.length),(8,AI k)] []) (fun k=>k<=l.length/\∀i,i<k->l.getD i 0=0) (fun k=>l.length-k) 0 ⟨Ake _,fun i hi=>absurd hi (Aj9 _)⟩ ?_ ?_
 ·exact By ⟨rfl,rfl,rfl,rfl,tt0⟩ trivial rfl
 ·intro k hk
  repeat'(first|refine Af ?_|(refine Av ?_ ?_<;>intro h hq)|fail)
  ·refine Aw Ae rfl ?_;rw[Mp l k hk.2 hk.1,AkV (by omega),orI,Akc]
   ·simp[Ajt];rw[AjC (by omega)];rfl
   ·rw[Ajt,AjC (by omega)] at hq;exact hq
  ·refine⟨k+1,⟨by omega,fun i hi=>?_⟩,by omega,By ⟨rfl,rfl,rfl,rfl,tt0⟩ trivial rfl⟩;by_cases hik:i<k
   ·exact hk.2 i hik
   ·have:i=k:=by omega
    subst this;exact hq
  ·refine Aw Ae rfl ?_;rw[Mp l k hk.2 hk.1,AkQ (by omega)];rfl
structure TC where
 slot:Int
 offset:Int
 kind:Int
 send:Bool
 peer:Int
 BR:Int
 deriving DecidableEq,Inhabited
def TC.enc (x:TC):List D:=[.int .i64 x.slot,.int .i64 x.offset,.int .i64 x.kind,.bool x.send,.int .i64 x.peer,.int .i64 x.BR]
def TC.cs (x:TC):List C:=[.d (.int .i64 x.slot),.d (.int .i64 x.offset),.d (.int .i64 x.kind),.d (.bool x.send),.d (.int .i64 x.peer),.d (.int .i64 x.BR)]
abbrev tcA (x:TC):AV:=.agg x.cs
abbrev tcs (l:List TC):D:=Hj TC.enc 6 l
theorem AhL {x y:TC} (h:[SV.int IntKind.i64 x.BR,SV.int IntKind.i64 x.peer,SV.bool x.send,SV.int IntKind.i64 x.kind,SV.int IntKind.i64 x.offset,SV.int IntKind.i64 x.slot].reverse=[SV.int IntKind.i64 y.BR,SV.int IntKind.i64 y.peer,SV.bool y.send,SV.int IntKind.i64 y.kind,SV.int IntKind.i64 y.offset,SV.int IntKind.i64 y.slot].reverse):x=y:=by
 have h:=List.reverse_inj.1 h;cases x;cases y;simp only[Ak6,SV.int.injEq,SV.bool.injEq,SV.str.injEq,true_and,and_true] at h;obtain⟨rfl,rfl,rfl,rfl,rfl,rfl⟩:=h
 rfl
def Dn (n:Int):Bool:=decide (0<=n/\n<32)
theorem QY (n:Int):Ak 105 [AI n] (AB (Dn n)):=by
 refine Ao func105 ntmps105 results105 fun E hS=>?_
 repeat'(first|refine Ad ?_|(refine Av ?_ ?_<;>intro h hq)|fail)
 all_goals refine Aq Ae rfl ?_
 all_goals simp_all [Dn]<;>omega
def Z7 (a b:TC):Int:=orI [IW a.slot b.slot,IW a.kind b.kind]
theorem RR (a b:TC):Ak 107 [tcA a,tcA b] (AI (Z7 a b)):=by
 refine Ao func107 ntmps107 results107 fun E hS=>?_
 repeat'(first|refine Ad ?_|refine Am (Iv _ _) ?_|refine Kc [15] (Tz [IW a.slot b.slot,IW a.kind b.kind]) (gk rfl) rfl (by(repeat'(first|exact .nil|refine .cons ?_ ?_|exact .of0 (.c (M0 (by decide) rfl rfl (by repeat'(first|exact tt0|refine⟨?_,?_⟩|rfl))))))<;>fail) rfl rfl rfl rfl rfl ?_|fail)
 all_goals exact AZ
def JV (c:TC) (self len:Int):Int:=
 if c.kind≠3/\c.kind≠1/\c.kind≠2 then 1
 else if(c.kind≠1/\c.BR≠-1)\/(c.kind=3/\(c.peer≠-1\/c.send=true)) then 1
 else if(c.slot<0\/len<=c.slot)\/(c.offset<0\/16<=c.offset)\/(c.kind≠3/\(Dn c.peer=false\/c.peer=self))\/(c.kind=1/\c.BR<0) then 2 else 0
theorem JU (c:TC) (self len:Int):Ak 106 [tcA c,AI self,AI len] (AI (JV c self len)):=by
 have h3:c.kind=3\/c.kind=1\/c.kind=2\/(c.kind≠3/\c.kind≠1/\c.kind≠2):=by omega
 obtain⟨slot,off,kind,send,peer,BR⟩:=c;dsimp only at h3;refine Ao func106 ntmps106 results106 fun E hS=>?_
 rcases h3 with rfl|rfl|rfl|⟨h,h',h''⟩
 rotate_left 3
 have a1:(!decide (kind=3))=true:=by simp[h]
 have a2:(!decide (kind=1))=true:=by simp[h']
 have a3:decide (kind≠2)=true:=by simp[h'']
 all_goals
  repeat'(first|refine Af ?_|refine Am (QY _) ?_|(refine Av ?_ ?_<;>intro h hq)|fail)
  all_goals first
   |(refine Aw Ae rfl ?_;unfold JV;simp_all;done)
   |(refine Aw Ae rfl ?_;unfold JV;simp_all<;>omega)
   |(exfalso;omega)
   |trace_state
structure Tb where
 node:Int
 len:Int
 cells:List TC
 deriving Inhabited
def Tb.cs (t:Tb):List C:=[.d (.int .i64 t.node),.d (.int .i64 t.len),.d (tcs t.cells)]
abbrev tbA (t:Tb):AV:=.agg t.cs
def I5 (t:Tb) (k:Nat):Int:=
 if JV (t.cells.getD k default) t.node t.len≠0 then JV (t.cells.getD k default) t.node t.len
 else if 0<k/\0<=Z7 (t.cells.getD (k-1) default) (t.cells.getD k default) then 5 else 0
def BV (t:Tb):Int:=if Dn t.node=false\/t.len<1\/512<t.len then 2 else if 512<t.cells.length then 8 else DQ t.cells.length (I5 t)
theorem Ix {t:Tb} {k:Nat} {e:Int} (h1:¬(Dn t.node=false\/t.len<1\/512<t.len)) (h0:t.cells.length<=512) (h:k<=t.cells.length/\∀i,i<k->I5 t i=0) (hk:k<t.cells.length) (he:I5 t k=e) (hne:e≠0):BV t=e:=by
 subst he;rw[BV,Akb h1,Akb (by omega),HS h.2 hk hne]
theorem M7 {t:Tb} {k:Nat} (h1:¬(Dn t.node=false\/t.len<1\/512<t.len)) (h0:t.cells.length<=512) (h:k<=t.cells.length/\∀i,i<k->I5 t i=0) (hk:t.cells.length<=k):BV t=0:=by
 rw[BV,Akb h1,Akb (by omega),De fun i hi=>h.2 i (by omega)]
theorem EE (t:Tb):Ak 62 [tbA t] (AI (BV t)):=by
 refine Ao func62 ntmps62 results62 fun E hS=>?_
 repeat'(first|refine Af ?_|refine Aa (QY _) ?_|(refine Av ?_ ?_<;>intro h hq)|fail)
 all_goals first
  |(refine Aw Ae rfl ?_;unfold BV;simp_all;done)
  |(refine Aw Ae rfl ?_;unfold BV;simp_all;omega)
  |skip
 have h1:¬(Dn t.node=false\/t.len<1\/512<t.len):=by simp_all
 refine Ax (ι:=Nat) (fun k=>AN [(1,.c (.ptr 1 0)),(25,AD (tcs t.cells)),(26,AI t.cells.length),(27,AI k)] [(1,.box t.cs)]) (fun k=>k<=t.cells.length/\∀i,i<k->I5 t i=0) (fun k=>t.cells.length-k) 0 ⟨Ake _,fun i hi=>absurd hi (Aj9 _)⟩ ?_ ?_
 ·exact By ⟨rfl,rfl,rfl,rfl,tt0⟩ ⟨rfl,tt0⟩ rfl
 ·intro k hk
  repeat'(first|refine Af ?_|refine Aa (JU _ _ _) ?_|refine Aa (RR _ _) ?_|refine A5 ?_|refine BZ (gk rfl) rfl rfl rfl rfl rfl (by omega) rfl ?_|(refine Av ?_ ?_<;>intro h hq)|fail)
  all_goals first
   |(refine Aw Ae rfl ?_
     first
     |exact M7 h1 (by omega) hk (by omega)
     |(refine Ix h1 (by omega) hk (by omega) ?_ hq;rw[I5,Akc hq];done)
     |(refine Ix h1 (by omega) hk (by omega) ?_ (by decide);rw[I5,Akb (by omega),Akc (by omega)];done))
   |(refine⟨k+1,⟨by omega,fun i hi=>?_⟩,by omega,By ⟨rfl,rfl,rfl,rfl,tt0⟩ ⟨rfl,tt0⟩ rfl⟩
     by_cases hik:i<k
     ·exact hk.2 i hik
     ·have:i=k:=by omega
      subst this;rw[I5,Akb (by omega),Akb (by omega)])
   |trace_state
def K1 (a b:TC):Bool:=decide (a.slot<b.slot)||(decide (a.slot=b.slot)&&decide (a.kind<b.kind))
theorem Vi (a b:TC):0<=Z7 a b↔K1 a b=false:=by
 unfold Z7 K1 orI orI orI IW;by_cases h1:a.slot<b.slot
 ·simp[h1]
 ·by_cases h2:b.slot<a.slot
  ·have:¬a.slot=b.slot:=by omega
   simp[h1,h2,this]
  ·have e:a.slot=b.slot:=by omega
   by_cases h3:a.kind<b.kind
   ·simp[e,h3]
   ·by_cases h4:b.kind<a.kind
    ·simp[e,h3,h4]
    ·simp[e,h3,h4]
theorem Tm (a b:TC):Ak 110 [tcA a,tcA b] (AB (K1 a b)):=by
 refine Ao func110 ntmps110 results110 fun E hS=>?_
 repeat'(first|refine Ad ?_|(refine Av ?_ ?_<;>intro h hq)|fail)
 all_goals refine Aq Ae rfl ?_
 all_goals simp_all [K1]<;>omega
theorem Tq (t:Tb) (c:TC):Ak 109 [tbA t,tcA c] (AI (JV c t.node t.len)):=by
 have h3:c.kind=3\/c.kind=1\/c.kind=2\/(c.kind≠3/\c.kind≠1/\c.kind≠2):=by omega
 obtain⟨slot,off,kind,send,peer,BR⟩:=c;dsimp only at h3;refine Ao func109 ntmps109 results109 fun E hS=>?_
 rcases h3 with rfl|rfl|rfl|⟨h,h',h''⟩
 all_goals
  repeat'(first|refine Ad ?_|(refine Av ?_ ?_<;>intro h hq)|fail)
  all_goals first
   |(refine Aw Ae rfl ?_;unfold JV Dn;simp_all;done)
   |(refine Aw Ae rfl ?_;unfold JV Dn;simp_all<;>omega)
   |(exfalso;omega)
   |trace_state
theorem Fo (t:Tb):Ak 66 [tbA t] (AI (BV t)):=by
 refine Ao func66 ntmps66 results66 fun E hS=>?_
 repeat'(first|refine Af ?_|(refine Av ?_ ?_<;>intro h hq)|fail)
 all_goals first
  |(refine Aw Ae rfl ?_;unfold BV Dn;simp_all;done)
  |(refine Aw Ae rfl ?_;unfold BV Dn;simp_all;omega)
  |skip
 have h1:¬(Dn t.node=false\/t.len<1\/512<t.len):=by unfold Dn;simp_all
 refine Ax (ι:=Nat) (fun k=>AN [(1,.c (.ptr 1 0)),(3,AI k)] [(1,.box t.cs)]) (fun k=>k<=t.cells.length/\∀i,i<k->I5 t i=0) (fun k=>t.cells.length-k) 0 ⟨Ake _,fun i hi=>absurd hi (Aj9 _)⟩ ?_ ?_
 ·exact By ⟨rfl,rfl,tt0⟩ ⟨rfl,tt0⟩ rfl
 ·intro k hk;have hlc:=Vi (t.cells.getD (k-1) default) (t.cells.getD k default)
  repeat'(first|refine Af ?_|refine Aa (Tq t _) ?_|refine Aa (Tm _ _) ?_|refine A5 ?_|refine BZ (gk rfl) rfl rfl rfl rfl rfl (by omega) rfl ?_|(refine Av ?_ ?_<;>intro h hq)|fail)
  all_goals first
   |(refine Aw Ae rfl ?_
     first
     |exact M7 h1 (by omega) hk (by omega)
     |(refine Ix h1 (by omega) hk (by omega) ?_ hq;rw[I5,Akc hq];done)
     |(refine Ix h1 (by omega) hk (by omega) ?_ (by decide);rw[I5,Akb (by omega),Akc ⟨by omega,hlc.2 hq⟩];done))
   |(refine⟨k+1,⟨by omega,fun i hi=>?_⟩,by omega,By ⟨rfl,rfl,tt0⟩ ⟨rfl,tt0⟩ rfl⟩
     by_cases hik:i<k
     ·exact hk.2 i hik
     ·have:i=k:=by omega
      subst this
      first
      |(rw[I5,Akb (by omega),Akb (by omega)];done)
      |(rw[I5,Akb (by omega),Akb (fun hc=>by rw[hlc.1 hc.2] at hq;cases hq)];done))
   |trace_state
theorem Nx (a b:List TC):Ak 119 [AD (tcs a),AD (tcs b)] (AB (decide (a=b))):=by
 refine Ao func119 ntmps119 results119 fun E hS=>?_
 refine Bz (t:=0) rfl fun hb=>?_
 repeat'(first|refine Af ?_|(refine Av ?_ ?_<;>intro h hq)|fail)
 ·refine Aq Ae rfl ?_;have:a≠b:=fun e=>by subst e;simp_all
  simp[this]
 ·refine Ax (ι:=Nat) (fun k=>AN [(0,AD (tcs a)),(1,AD (tcs b)),(5,AI k)] []) (fun k=>k<=a.length/\∀i,i<k->a.getD i default=b.getD i default) (fun k=>a.length-k) 0 ⟨Ake _,fun i hi=>absurd hi (Aj9 _)⟩ ?_ ?_
  ·exact By ⟨rfl,rfl,rfl,tt0⟩ trivial rfl
  ·rintro k ⟨hk,hall⟩
   repeat'(first|refine Af ?_|refine Gc (gk rfl) rfl rfl rfl rfl rfl rfl rfl ?_|(refine Av ?_ ?_<;>intro h hq)|fail)
   ·refine Aq Ae rfl ?_;have:a≠b:=fun e=>hq (by rw[e])
    simp[this]
   ·refine⟨k+1,⟨by omega,fun i hi=>?_⟩,by omega,By ⟨rfl,rfl,rfl,tt0⟩ trivial rfl⟩;by_cases hik:i<k
    ·exact hall i hik
    ·have:i=k:=by omega
     subst this;exact AhL hq
   ·refine Aq Ae rfl ?_;have:a=b:=Go.Sx.EX (by omega) fun i hi=>hall i (by omega)
    simp[this]
def Ad2 (a b:Tb):Bool:=decide (a.node=b.node/\a.len=b.len/\a.cells=b.cells)
theorem HG (a b:Tb):Ak 82 [tbA a,tbA b] (AB (Ad2 a b)):=by
 refine Ao func82 ntmps82 results82 fun E hS=>?_
 repeat'(first|refine Ad ?_|refine Aa (Nx _ _) ?_|(refine Av ?_ ?_<;>intro h hq)|fail)
 all_goals(refine Aq Ae rfl ?_;unfold Ad2;simp_all)
def Ais (n:Int):Bool:=decide (n<=40\/512<n/\n<=516)
theorem ZN (n:Int):Ak 58 [AI n] (AB (Ais n)):=by
 refine Ao func58 ntmps58 results58 fun E hS=>?_
 repeat'(first|refine Ad ?_|(refine Av ?_ ?_<;>intro h hq)|fail)
 all_goals(refine Aq Ae rfl ?_;unfold Ais;simp_all)
 all_goals omega
def Air (t:Tb):Bool:=Ais t.cells.length&&decide (t.len<=64\/512<t.len)
theorem ZK (t:Tb):Ak 27 [tbA t] (AB (Air t)):=by
 refine Ao func27 ntmps27 results27 fun E hS=>?_
 repeat'(first|refine Ad ?_|refine Aa (ZN _) ?_|(refine Av ?_ ?_<;>intro h hq)|fail)
 all_goals(refine Aq Ae rfl ?_;unfold Air;simp_all)
 all_goals omega
theorem B4 {t:Tb} (h:BV t=0):t.cells.length<=512/\1<=t.len/\t.len<=512/\Dn t.node=true:=by
 unfold BV at h
 split at h
 ·cases h
 ·split at h
  ·cases h
  ·rename_i h1 h2;simp only[not_or] at h1;refine⟨by omega,by omega,by omega,by simpa using h1.1⟩
def Uo (l:List TC) (t:Int):Nat:=bs (fun i=>decide (IW (l.getD i default).slot t<0)) 0 l.length
def ZG (l:List TC) (t:Int):Bool:=decide (Uo l t<l.length)&&decide (IW (l.getD (Uo l t) default).slot t=0)
abbrev Pz:List DV->DV->Prop:=fun ds r=>∃(x:TC) (t:Int),ds=[.agg x.enc,.d (.int .i64 t)]/\r=.d (.int .i64 (IW x.slot t))
theorem OW (l:List TC) (t:Int) (hl:l.length<=1000000):Ak 169 [AD (tcs l),AI t,.clo Pz] (.tup [AI (Uo l t),AB (ZG l t)]):=by
 refine Ao func169 ntmps169 results169 fun E hS=>?_
 repeat'(first|refine Af ?_|fail)
 refine Ax (ι:=Nat×Nat) (fun p=>AN [(0,AD (tcs l)),(1,AI t),(2,.clo Pz),(8,AI l.length),(9,AI p.1),(10,AI p.2)] [])
  (fun p=>p.1<=p.2/\p.2<=l.length/\bs (fun i=>decide (IW (l.getD i default).slot t<0)) p.1 p.2=Uo l t) (fun p=>p.2-p.1) (0,l.length) ⟨Ake _,Akd _,rfl⟩ ?_ ?_
 ·exact By ⟨rfl,rfl,rfl,rfl,rfl,rfl,tt0⟩ trivial rfl
 ·rintro⟨i,j⟩ ⟨h1,h2,h3⟩;dsimp only at h1 h2 h3 ⊢
  repeat'(first|refine Af ?_|refine F4 (⟨_,_,rfl,rfl⟩) (gk rfl) rfl rfl rfl rfl ?_|refine A5 ?_|refine EO (gk rfl) rfl rfl rfl rfl (by omega) rfl ?_|refine A7 ?_|refine P6 (m:=1) (gk rfl) rfl rfl rfl (by decide) rfl ?_|(refine Av ?_ ?_<;>intro h hq)|fail)
  ·have e:(((i:Int)+(j:Int))/2^1).toNat=(i+j)/2:=by omega
   rw[e] at hq;refine⟨((i+j)/2+1,j),⟨by dsimp only;omega,h2,?_⟩,by dsimp only;omega,By ⟨rfl,rfl,rfl,rfl,Aat ?_ rfl,rfl,tt0⟩ trivial rfl⟩
   ·rw[<-h3]
    conv=>rhs;rw[bs,Akc (by omega)]
    rw[Akc];exact Aju hq
   ·congr 1<;>omega
  ·have e:(((i:Int)+(j:Int))/2^1).toNat=(i+j)/2:=by omega
   rw[e] at hq;refine⟨(i,(i+j)/2),⟨by dsimp only;omega,by dsimp only;omega,?_⟩,by dsimp only;omega,By ⟨rfl,rfl,rfl,rfl,rfl,Aat ?_ rfl,tt0⟩ trivial rfl⟩
   ·rw[<-h3]
    conv=>rhs;rw[bs,Akc (by omega)]
    rw[Akb];rw[Ajw];exact Int.not_lt.2 hq
   ·congr 1<;>omega
  all_goals(have e0:Uo l t=i:=by
             rw[<-h3,bs,Akb (by omega)])
  all_goals refine IP Ae rfl rfl (by rw[e0]) ?_
  all_goals simp_all [ZG]<;>omega
theorem Acf (c:TC) (n:Int):Ak 170 [tcA c,AI n] (AI (IW c.slot n)):=by
 refine Ao func170 ntmps170 results170 fun E hS=>?_
 repeat'(first|refine Ad ?_|refine Aa (Iv _ _) ?_|fail)
 all_goals exact AZ
theorem Ae7 {σ:St} {L:List Nat}:AR Tryz.prog σ L (.fnc 170 []) (.clo Pz):=
 .fnc .nil (enters_of func170 (by kernel_rfl) rfl) (by rintro _ _ ⟨x,t,rfl,rfl⟩;exact⟨rfl,Acf x t⟩)
theorem KP {n:Nat} {f:Nat->Int} (h:DQ n f=0):∀i,i<n->f i=0:=by
 intro i hi;unfold DQ at h;cases hf:(List.range n).find? (fun i=>f i != 0) with
 |none=>
  have:=List.find?_eq_none.1 hf i (Aj2.2 hi);simpa using this
 |some k=>
  rw[hf] at h;have:=List.find?_some hf;simp only[Option.elim] at h;rw[h] at this;simp at this
theorem RW {t:Tb} (h:BV t=0):∀i,i<t.cells.length->JV (t.cells.getD i default) t.node t.len=0/\(0<i->K1 (t.cells.getD (i-1) default) (t.cells.getD i default)=true):=by
 have hl:=B4 h;unfold BV at h
 split at h
 ·cases h
 ·split at h
  ·cases h
  ·intro i hi;have:=KP h i hi;unfold I5 at this
   split at this
   ·omega
   ·rename_i h1;refine⟨by omega,fun h0=>?_⟩
    split at this
    ·cases this
    ·rename_i h2;have h3:¬0<=Z7 (t.cells.getD (i-1) default) (t.cells.getD i default):=fun hc=>h2 ⟨h0,hc⟩
     rw[Vi] at h3;simpa using h3
theorem JO {a b:TC}:K1 a b=true↔a.slot<b.slot\/(a.slot=b.slot/\a.kind<b.kind):=by
 simp[K1]
theorem TI {a b c:TC} (h:K1 a b=true) (k:K1 b c=true):K1 a c=true:=by
 rw[JO] at *;omega
def Srt (l:List TC):Prop:=∀i j,i<j->j<l.length->K1 (l.getD i default) (l.getD j default)=true
theorem Agh {l:List TC} (h:∀i,i<l.length->0<i->K1 (l.getD (i-1) default) (l.getD i default)=true):Srt l:=by
 intro i j hij
 induction j with
 |zero=>omega
 |succ j ih=>
  intro hj;have h1:=h (j+1) hj (by omega);rw[Nat.add_sub_cancel] at h1;rcases Akf i j with h2|h2
  ·exact TI (ih h2 (by omega)) h1
  ·rw[show i=j by omega];exact h1
theorem Ou {t:Tb} (h:BV t=0):Srt t.cells:=Agh fun i hi h0=>(RW h i hi).2 h0
theorem FP {a b:Int}:IW a b<0↔a<b:=by
 unfold IW;split<;>(try split)<;>omega
theorem M5 {a b:Int}:IW a b=0↔a=b:=by
 unfold IW;split<;>(try split)<;>omega
theorem Ab9 {l:List TC} (h:Srt l) (s:Int):Ft l (fun c=>decide (c.slot=s))=if Uo l s<l.length/\(l.getD (Uo l s) default).slot=s then some (Uo l s) else none:=by
 have hb:=Aag (f:=fun i=>decide (IW (l.getD i default).slot s<0)) (n:=l.length) (fun a b hab hb hf=>by
  simp only[Ajw,FP] at hf ⊢;have:=JO.1 (h a b hab hb);omega)
 change Uo l s<=_/\(∀a,a<Uo l s->_)/\∀a,Uo l s<=a->_ at hb;obtain⟨h1,h2,h3⟩:=hb;simp only[Ajw,Ajx,FP] at h2 h3
 split
 ·rename_i hc;exact C2 (fun i hi=>Ajv (by have:=h2 i hi;omega)) hc.1 (Aju hc.2)
 ·rename_i hc;refine CF fun i hi=>?_
  simp only[Ajx];intro he;rcases Akf i (Uo l s) with hlt|hge
  ·have:=h2 i hlt;omega
  ·refine hc ⟨by omega,?_⟩;have h5:=h3 (Uo l s) (Akd _) (by omega);rcases Akf (Uo l s) i with h6|h6
   ·have:=JO.1 (h _ _ h6 hi);omega
   ·rw[show Uo l s=i by omega];exact he
def noC:TC:=⟨0,0,0,false,0,0⟩
def atM (t:Tb) (slot:Int):TC×Bool:=if BV t≠0\/slot<0 then(noC,false) else match Ft t.cells (fun c=>decide (c.slot=slot % t.len)) with
 |some i=>(t.cells.getD i default,true)
 |none=>(noC,false)
theorem PM (t:Tb) (slot:Int):Ak 126 [tbA t,AI slot] (.tup [tcA (atM t slot).1,AB (atM t slot).2]):=by
 have hck:=EE t;refine Ao func126 ntmps126 results126 fun E hS=>?_
 by_cases hc:BV t=0
 ·rw[hc] at hck;have hl:=B4 hc;by_cases hs:slot<0
  ·have e:atM t slot=(noC,false):=by rw[atM,Akc (.inr hs)]
   rw[e]
   repeat'(first|refine Ad ?_|refine Aa (hck) ?_|(refine Av ?_ ?_<;>intro h hq)|fail)
   all_goals first
    |(exfalso;omega)
    |exact Aj
  ·have e:atM t slot=match Ft t.cells (fun c=>decide (c.slot=slot % t.len)) with
     |some i=>(t.cells.getD i default,true)
     |none=>(noC,false):=by rw[atM,Akb (by omega)]
   rw[Ab9 (Ou hc)] at e
   repeat'(first|refine Ad ?_|refine Aa (hck) ?_|refine Cd [] (OW t.cells _ (by omega)) (gk rfl) rfl (by(repeat'(first|exact .nil|refine .cons ?_ ?_|exact .of0 (.c .d)|exact(Ae7)))<;>fail) (by rfl) rfl (by rfl) rfl (by rfl) rfl ?_|(refine Av ?_ ?_<;>intro h hq)|fail)
   all_goals try (exfalso;omega)
   ·rw[Akc ⟨by omega,hq⟩] at e;rw[e];exact Aj
   all_goals
    rw[Akb (by omega)] at e;rw[e];exact Aj
 ·have e:atM t slot=(noC,false):=by rw[atM,Akc (.inl hc)]
  rw[e]
  repeat'(first|refine Ad ?_|refine Aa (hck) ?_|(refine Av ?_ ?_<;>intro h hq)|fail)
  all_goals first
   |(exfalso;omega)
   |exact Aj
theorem QM (t:Tb) (slot:Int):Ak 193 [tbA t,AI slot] (.tup [tcA (atM t slot).1,AB (atM t slot).2]):=by
 have hck:=Fo t;refine Ao func193 ntmps193 results193 fun E hS=>?_
 by_cases hc:BV t=0
 ·rw[hc] at hck;have hl:=B4 hc;by_cases hs:slot<0
  ·have e:atM t slot=(noC,false):=by rw[atM,Akc (.inr hs)]
   rw[e]
   repeat'(first|refine Af ?_|refine Aa (hck) ?_|(refine Av ?_ ?_<;>intro h hq)|fail)
   all_goals first
    |(exfalso;omega)
    |exact Aj
  ·have e:atM t slot=match Ft t.cells (fun c=>decide (c.slot=slot % t.len)) with
     |some i=>(t.cells.getD i default,true)
     |none=>(noC,false):=by rw[atM,Akb (by omega)]<;>rfl
   repeat'(first|refine Af ?_|refine Aa (hck) ?_|(refine Av ?_ ?_<;>intro h hq)|fail)
   all_goals try (exfalso;omega)
   refine Ax (ι:=Nat) (fun k=>AN [(1,AI slot),(2,.c (.ptr 2 0)),(4,.c (.ptr 4 0)),(6,AI k)] [(2,.box t.cs),(4,.box noC.cs)]) (fun k=>k<=t.cells.length/\∀i,i<k->decide ((t.cells.getD i default).slot=slot % t.len)=false) (fun k=>t.cells.length-k) 0 ⟨Ake _,fun i hi=>absurd hi (Aj9 _)⟩ ?_ ?_
   ·exact Al
   ·intro k hk
    repeat'(first|refine Af ?_|(refine Av ?_ ?_<;>intro h hq)|fail)
    ·rw[C2 (l:=t.cells) (p:=fun c:TC=>decide (c.slot=slot % t.len)) hk.2 (by omega) (Aju hq)] at e;rw[e];exact Aj
    ·refine⟨k+1,⟨by omega,fun i hi=>?_⟩,by omega,?_⟩
     ·by_cases hik:i<k
      ·exact hk.2 i hik
      ·have:i=k:=by omega
       subst this;exact Ajv hq
     ·exact Al
    ·rw[CF (l:=t.cells) (p:=fun c:TC=>decide (c.slot=slot % t.len)) fun i hi=>hk.2 i (by omega)] at e;rw[e];exact Aj
 ·have e:atM t slot=(noC,false):=by rw[atM,Akc (.inl hc)]
  rw[e]
  repeat'(first|refine Af ?_|refine Aa (hck) ?_|(refine Av ?_ ?_<;>intro h hq)|fail)
  all_goals first
   |(exfalso;omega)
   |exact Aj
end Go.Proofs.T
