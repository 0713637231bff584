/-
  Functions' results, and laws on them. No condition.
-/
import Derived.Test.YtdlcbilgemnomaaGreatSxLibB
import Derived.MapKept
import Derived.ChangeKeysEq
import Derived.Laws.BytesString
import Derived.Laws.MakeOwn
import Derived.Laws.Strings
import Derived.Laws.Slices
import Derived.RangeFuncFrom
import Derived.Deep.LoopGhost
import Derived.Scope
import Derived.LaidEql
import Derived.OrdersIn
set_option linter.unusedSimpArgs false
set_option linter.unusedVariables false
open Go Go.Sx Go.RowKit
variable {P:Program} {N:Nat} {E:Env P N} {ops:Array Oper} {dr:Bool} {rest:List Oper} {σ:St} {tr:Go.Sx.Trace} {K:St->Prop}
namespace Go.Sx
open Go Go.RowKit
def C.ren (g:Nat->Nat):C->C
 |.d x=>.d x
 |.ptr n o=>.ptr (g n) o
 |.row n m=>.row (g n) m
 |.fn f n o=>.fn f (g n) o
 |.mp n=>.mp (g n)
def AV.Aba (g:Nat->Nat):AV->AV
 |.c x=>.c (x.ren g)
 |.agg cs=>.agg (cs.map (C.ren g))
 |.tup vs=>.tup vs
 |.ep g m=>.ep g m
 |.rp n sz i o=>.rp (g n) sz i o
 |.sub n sz i o=>.sub (g n) sz i o
 |.clo φ=>.clo φ
 |.fnc f caps=>.fnc f (caps.map (C.ren g))
def AV.ren (g:Nat->Nat):AV->AV
 |.tup vs=>.tup (vs.map (AV.Aba g))
 |x=>x.Aba g
def Blk.ren (g:Nat->Nat):Blk->Blk
 |.box cs=>.box (cs.map (C.ren g))
 |.row T sz xs=>.row T sz (xs.map fun cs=>cs.map (C.ren g))
 |.full T sz cp xs spare=>.full T sz cp (xs.map fun cs=>cs.map (C.ren g)) spare
 |.map es=>.map (es.map fun p=>(p.1,p.2.ren g))
 |.pin n B=>.pin (g n) B
 |.dead=>.dead
theorem C.ET (g:Nat->Nat) (c:C):(c.ren g).names=c.names.map g:=by cases c<;>rfl
theorem Cs.ET (g:Nat->Nat) (cs:List C):(cs.map (C.ren g)).flatMap C.names=(cs.flatMap C.names).map g:=by
 rw[List.flatMap_map,List.map_flatMap];exact congrArg (fun f=>List.flatMap f cs) (funext fun c=>C.ET g c)
theorem Blk.ET (g:Nat->Nat) (b:Blk):(b.ren g).names=b.names.map g:=by
 have h1:∀xs:List (List C),(xs.map fun cs=>cs.map (C.ren g)).flatMap (fun cs=>cs.flatMap C.names)=(xs.flatMap fun cs=>cs.flatMap C.names).map g:=fun xs=>by
  rw[List.flatMap_map,List.map_flatMap];exact congrArg (fun f=>List.flatMap f xs) (funext fun cs=>Cs.ET g cs)
 cases b with
 |box cs=>exact Cs.ET g cs
 |row T sz xs=>exact h1 xs
 |full T sz cp xs spare=>exact h1 xs
 |map es=>
  show(es.map fun p=>(p.1,p.2.ren g)).flatMap (fun p=>p.2.names)=(es.flatMap fun p=>p.2.names).map g;rw[List.flatMap_map,List.map_flatMap];exact congrArg (fun f=>List.flatMap f es) (funext fun p=>C.ET g p.2)
 |pin n B=>rfl
 |dead=>rfl
def AV.Pb:AV->Bool
 |.fnc _ _=>true
 |x=>x.N6
def AV.Mj:AV->Bool
 |.tup vs=>vs.all AV.Pb
 |x=>x.Pb
section
variable {ρ ρ':Nat->RI} {w w':World} {Im Im':Nat->Prop} {g:Nat->Nat}
theorem C.F7 {c:C} {v:Value} (hc:C6 w w' Im Im' c.flat) (hρ:∀n∈c.names,ρ' (g n)=ρ n) (h:Cf ρ w Im c v):Cf ρ' w' Im' (c.ren g) v:=by
 cases c with
 |d x=>exact C6.d hc h
 |ptr n o=>simp only[Cf,C.ren] at h ⊢;rw[hρ n (by simp[C.names])];exact h
 |row n m=>simp only[Cf,C.ren] at h ⊢;rw[hρ n (by simp[C.names])];exact h
 |fn f n o=>simp only[Cf,C.ren] at h ⊢;rw[hρ n (by simp[C.names])];exact h
 |mp n=>simp only[Cf,C.ren] at h ⊢;rw[hρ n (by simp[C.names])];exact h
theorem Cs.F7 {cs:List C} {us:List Value} (hc:C6 w w' Im Im' (cs.all C.flat)) (hρ:∀n∈cs.flatMap C.names,ρ' (g n)=ρ n) (h:Bh (Cf ρ w Im) cs us):Bh (Cf ρ' w' Im') (cs.map (C.ren g)) us:=
 DH h fun c hcs _ h'=>C.F7 (hc.sub fun ha=>AjL.1 ha c hcs) (fun n hn=>hρ n (List.mem_flatMap.2 ⟨c,hcs,hn⟩)) h'
theorem AV.Kl {P:Program} {N N':Nat} {E:Env P N} {E':Env P N'} {x:AV} {v:Value} (hp:x.Pb=true) (hc:C6 w w' Im Im' x.W9) (hρ:∀n∈x.CE,ρ' (g n)=ρ n) (h:Em E ρ w Im x v):Em E' ρ' w' Im' (x.Aba g) v:=by
 cases x with
 |c x=>exact C.F7 hc hρ h
 |agg cs=>obtain⟨us,rfl,ha⟩:=h;exact⟨us,rfl,Cs.F7 hc hρ ha⟩
 |tup vs=>cases hp
 |ep g m=>
  obtain⟨b,o,rfl,hb,hx⟩:=h;rcases hc with hf|hk
  ·cases hf
  ·refine⟨b,o,rfl,(hk b hb).1,fun j hj=>?_⟩;obtain⟨u,hu,hru⟩:=hx j hj;exact⟨u,(World.cell?_of_block (hk b hb).2).trans hu,DT.Bo hk hru⟩
 |rp n sz i o=>simp only[Em,AV.Aba] at h ⊢;rw[hρ n (by simp[AV.CE])];exact h
 |sub n sz i o=>cases hp
 |clo φ=>cases hp
 |fnc f caps=>obtain⟨us,rfl,ha⟩:=h;exact⟨us,rfl,Cs.F7 (hc.sub fun hf=>by cases hf) hρ ha⟩
theorem AV.F7 {P:Program} {N N':Nat} {E:Env P N} {E':Env P N'} {x:AV} {v:Value} (hp:x.Mj=true) (hc:C6 w w' Im Im' x.flat) (hρ:∀n∈x.names,ρ' (g n)=ρ n) (h:Ca E ρ w Im x v):Ca E' ρ' w' Im' (x.ren g) v:=by
 cases x with
 |tup vs=>
  obtain⟨us,rfl,ha⟩:=h;simp only[AV.Mj,AjL] at hp;exact⟨us,rfl,DH ha fun y hy _ h'=>AV.Kl (hp y hy) (hc.sub fun hf=>AjL.1 hf y hy) (fun n hn=>hρ n (List.mem_flatMap.2 ⟨y,hy,hn⟩)) h'⟩
 |c x=>exact AV.Kl (E:=E) (E':=E') (x:=.c x) hp hc hρ h
 |agg cs=>exact AV.Kl (E:=E) (E':=E') (x:=.agg cs) hp hc hρ h
 |ep g m=>exact AV.Kl (E:=E) (E':=E') (x:=.ep g m) hp hc hρ h
 |rp n sz i o=>exact AV.Kl (E:=E) (E':=E') (x:=.rp n sz i o) hp hc hρ h
 |sub n sz i o=>cases hp
 |clo φ=>cases hp
 |fnc f caps=>exact AV.Kl (E:=E) (E':=E') (x:=.fnc f caps) hp hc hρ h
theorem Blk.F7 {b:Blk} {n:Nat} (hc:C6 w w' Im Im' b.flat) (hn:ρ' (g n)=ρ n) (hh:(ρ n).isNil=false->b.live=true->w'.heap[(ρ n).blk]?=w.heap[(ρ n).blk]?) (hρ:∀m∈b.names,ρ' (g m)=ρ m) (h:BQ ρ w Im n b):BQ ρ' w' Im' (g n) (b.ren g):=by
 cases b with
 |box cs=>
  obtain⟨hnil,us,T,h1,h2⟩:=h;exact⟨by rw[hn];exact hnil,us,T,by rw[hn,hh hnil rfl];exact h1,Cs.F7 hc hρ h2⟩
 |row T sz xs=>
  unfold BQ at h;unfold BQ Blk.ren;simp only;rw[hn];cases hnil:(ρ n).isNil with
  |true=>simp only[hnil,if_true] at h ⊢;rw[h];rfl
  |false=>
   simp only[hnil,Akr,if_false] at h ⊢;obtain⟨us,spare,h1,h2,h3,h4,h5,h6⟩:=h;refine⟨us,spare,by rw[hh hnil rfl];exact h1,?_,?_,h4,by simpa using h5,h6⟩
   ·have hfl:(xs.map fun cs=>cs.map (C.ren g)).flatten=xs.flatten.map (C.ren g):=by
     rw[<-List.map_flatten]
    rw[hfl];refine Cs.F7 (hc.sub fun hf=>?_) (fun m hm=>hρ m ?_) h2
    ·simp only[Blk.flat,AjL] at hf ⊢;intro c hc';obtain⟨l,hl,hcl⟩:=AjX.1 hc';exact hf l hl c hcl
    ·obtain⟨c,hc',hmc⟩:=List.mem_flatMap.1 hm;obtain⟨l,hl,hcl⟩:=AjX.1 hc';exact List.mem_flatMap.2 ⟨l,hl,List.mem_flatMap.2 ⟨c,hcl,hmc⟩⟩
   ·intro x hx;obtain⟨y,hy,rfl⟩:=Aj5.1 hx;simpa using h3 y hy
 |full T sz cp xs spare=>
  obtain⟨hnil,hcap,us,h1,h2,h3,h4,h5,h6⟩:=h;refine⟨by rw[hn];exact hnil,by rw[hn];exact hcap,us,by rw[hn,hh hnil rfl];exact h1,?_,?_,h4,by simpa using h5,h6⟩
  ·have hfl:(xs.map fun cs=>cs.map (C.ren g)).flatten=xs.flatten.map (C.ren g):=by
    rw[<-List.map_flatten]
   rw[hfl];refine Cs.F7 (hc.sub fun hf=>?_) (fun m hm=>hρ m ?_) h2
   ·simp only[Blk.flat,AjL] at hf ⊢;intro c hc';obtain⟨l,hl,hcl⟩:=AjX.1 hc';exact hf l hl c hcl
   ·obtain⟨c,hc',hmc⟩:=List.mem_flatMap.1 hm;obtain⟨l,hl,hcl⟩:=AjX.1 hc';exact List.mem_flatMap.2 ⟨l,hl,List.mem_flatMap.2 ⟨c,hcl,hmc⟩⟩
  ·intro x hx;obtain⟨y,hy,rfl⟩:=Aj5.1 hx;simpa using h3 y hy
 |map es=>
  obtain⟨hnil,arr,clock,h1,h2⟩:=h;exact⟨by rw[hn];exact hnil,arr,clock,by rw[hn,hh hnil rfl];exact h1,DH h2 fun p hp e h'=>⟨h'.1,C.F7 (hc.sub fun hf=>AjL.1 hf p hp) (fun m hm=>hρ m (List.mem_flatMap.2 ⟨p,hp,hm⟩)) h'.2⟩⟩
 |pin m B=>
  have:=hρ m (by simp[Blk.names]);show ρ' (g m)=B;rw[this];exact h
 |dead=>trivial
end
def PY (g:Nat->Nat) (bo:List (Nat×Blk)):Ck:=bo.map fun p=>(.b (g p.1),some (.k (p.2.ren g)))
theorem I3 (g:Nat->Nat) (t:Nat):∀(bo:List (Nat×Blk)) (σ:St),σ.Cl (PY g bo) (.s t)=σ (.s t)
 |[],_=>rfl
 |p :: bo,σ=>(I3 g t bo _).trans (St.At _ _ (by intro e;cases e))
theorem GN (g:Nat->Nat) (q:Nat):∀(bo:List (Nat×Blk)) (σ:St),(∀p∈bo,g p.1≠q)->σ.Cl (PY g bo) (.b q)=σ (.b q)
 |[],_,_=>rfl
 |p :: bo,σ,h=>(GN g q bo _ fun r hr=>h r (by simp[hr])).trans (St.At _ _ (by intro e;injection e with e;exact h p (by simp) e))
theorem Jy (g:Nat->Nat):∀(bo:List (Nat×Blk)) (σ:St),(∀p∈bo,∀q∈bo,g p.1=g q.1->p.1=q.1)->Ms bo=true->∀n b,As bo n=some b->σ.Cl (PY g bo) (.b (g n))=some (.k (b.ren g))
 |[],_,_,_,_,_,h=>by cases h
 |p :: bo,σ,hi,hd,n,b,h=>by
  simp only[Ms,AjE] at hd;simp only[As] at h;cases hb:Nat.beq p.1 n with
  |true=>
   rw[hb] at h;have e:p.1=n:=by simpa using hb
   have e2:p.2=b:=by simpa using h
   subst e;subst e2;refine(GN g (g p.1) bo _ fun r hr he=>?_).trans (St.AM _ _ _);have he:=hi r (by simp[hr]) p (by simp) he;have hn:As bo p.1=none:=by simpa using hd.1
   obtain⟨r1,r2⟩:=r;simp only at he;subst he;have:=C7 hr;rw[hn] at this;cases this
  |false=>
   rw[hb] at h;exact Jy g bo _ (fun x hx y hy=>hi x (by simp[hx]) y (by simp[hy])) hd.2 n b h
section
variable {P:Program} {N:Nat} {E:Env P N} {σ:St} {a:Act} {w w':World} {ρ ρ':Nat->RI} {Im Im' ImL:Nat->Prop}
theorem FN {bo:List (Nat×Blk)} {g:Nat->Nat} {q:Nat} {p:Nat×Blk} (h:bo.find? (fun p=>Nat.beq (g p.1) q)=some p):p∈bo/\g p.1=q:=
 ⟨List.mem_of_find?_eq_some h,by have:=List.find?_some h;simpa using this⟩
theorem A8.AcT (h:A8 E σ a w ρ Im) {S:Nat->Prop} (hS1:∀n b,σ (.b n)=some (.k b)->b.live=true->(ρ n).isNil=false->¬S (ρ n).blk) (hS2:∀b,Im b->¬S b) (hS3:∀b,S b->E.S0 b\/E.w0.heap.size<=b) {bo:List (Nat×Blk)} {res:AV} {v:Value} {g:Nat->Nat} (hm:F1 (⟨w,ImL,S⟩:Env P 0) (AN [] bo) w' ρ' Im')
  (hr:Ca (⟨w,ImL,S⟩:Env P 0) ρ' w' Im' res v) (hfl:(∀b,ImL b->Im b)\/(res.flat=true/\bo.all (fun p=>p.2.flat)=true)) (hpl:res.Mj=true)
  (hwf:BC res bo=true) (hinj:∀p∈bo,∀q∈bo,g p.1=g q.1->p.1=q.1)
  (hfresh:∀p∈bo,σ (.b (g p.1))=none\/(σ (.b (g p.1))=some (.k .dead)/\ρ' p.1=ρ (g p.1))):
  ∃ρ'' Im'',A8 E (σ.Cl (PY g bo)) a w' ρ'' Im''/\Ca E ρ'' w' Im'' (res.ren g) v/\∀nm,(res.ren g).mentions nm=true->σ.Cl (PY g bo) (.b nm)≠none:=by
 simp only[BC,AjE,AjL] at hwf;obtain⟨⟨⟨hsh,hresn⟩,hbon⟩,hnd⟩:=hwf
 let look:Nat->Option (Nat×Blk):=fun q=>bo.find? (fun p=>Nat.beq (g p.1) q)
 let ρ'':Nat->RI:=fun q=>match look q with|some p=>ρ' p.1|none=>ρ q
 let Im'':Nat->Prop:=fun b=>Im b\/(Im' b/\w.heap.size<=b)
 have hkeep:IL w S w':=hm.Bo;have hsize:w.heap.size<=w'.heap.size:=hkeep.size;have hblk:∀b,b<w.heap.size->¬S b->w'.heap[b]?=w.heap[b]?:=fun b hb hS=>hkeep.block b hb hS
 have hmemL:∀n,(As bo n).isSome=true->∃p∈bo,p.1=n:=fun n hn=>by
  obtain⟨b,hb⟩:=Akk.1 hn;exact⟨_,AP hb,rfl⟩
 have hnewρ:∀n,(As bo n).isSome=true->ρ'' (g n)=ρ' n:=fun n hn=>by
  obtain⟨p,hp,rfl⟩:=hmemL n hn;have:∃q,look (g p.1)=some q:=by
   cases hl:look (g p.1) with
   |some q=>exact⟨q,rfl⟩
   |none=>
    have:=List.find?_eq_none.1 hl p hp;simp at this
  obtain⟨q,hq⟩:=this;obtain⟨h1,h2⟩:=FN hq;show(match look (g p.1) with|some p=>ρ' p.1|none=>ρ (g p.1))=_;rw[hq];simp only;rw[hinj q h1 p hp h2]
 have holdρ:∀n,σ (.b n)≠none->ρ'' n=ρ n:=fun n hn=>by
  show(match look n with|some p=>ρ' p.1|none=>ρ n)=_;cases hl:look n with
  |none=>rfl
  |some p=>
   obtain⟨h1,h2⟩:=FN hl;rcases hfresh p h1 with h3|⟨_,h3⟩
   ·rw[h2] at h3;exact absurd h3 hn
   ·rw[h2] at h3;exact h3
 have hσ:∀n,look n=none->σ.Cl (PY g bo) (.b n)=σ (.b n):=fun n hn=>GN g n bo σ fun p hp e=>by
  have:=List.find?_eq_none.1 hn p hp;simp[e] at this
 have hσn:∀n b,As bo n=some b->σ.Cl (PY g bo) (.b (g n))=some (.k (b.ren g)):=Jy g bo σ hinj hnd;have hIm'':∀b,Im b->Im'' b/\w'.heap[b]?=w.heap[b]?:=fun b hb=>⟨.inl hb,hblk b (h.im b hb).2.1 (hS2 b hb)⟩
 have hcar:∀fl,((res.flat=true/\bo.all (fun p=>p.2.flat)=true)->fl=true)->C6 w' w' Im' Im'' fl:=fun fl hf=>by
  rcases hfl with hl|hl
  ·right
   intro b hb;refine⟨?_,rfl⟩;rcases (hm.im b hb).1 with h1|h1
   ·exact .inl (hl b h1)
   ·exact .inr ⟨hb,h1⟩
  ·exact .inl (hf hl)
 have hcase:∀n b,σ.Cl (PY g bo) (.b n)=some (.k b)->(look n=none/\σ (.b n)=some (.k b))\/∃m b',n=g m/\As bo m=some b'/\b=b'.ren g:=fun n b hb=>by
  cases hi:look n with
  |none=>rw[hσ n hi] at hb;exact .inl ⟨rfl,hb⟩
  |some p=>
   obtain⟨h1,h2⟩:=FN hi;have hb':=C7 h1;obtain⟨b',hb'⟩:=Akk.1 hb';have:=hσn p.1 b' hb';rw[h2,hb] at this;injection this with this;injection this with this
   exact .inr ⟨p.1,b',h2.symm,hb',this⟩
 have hst:∀m b',As bo m=some b'->AN [] bo (.b m)=some (.k b'):=fun m b' hb=>by simp[AN,hb]
 have hlive:∀b:Blk,(b.ren g).live=b.live:=fun b=>by cases b<;>rfl
 have hnot:∀n b,σ (.b n)=some (.k b)->look n=none->∀m b',As bo m=some b'->n≠g m:=fun n b _ hl m b' hb' e=>by
  have:=List.find?_eq_none.1 hl _ (AP hb');simp[e] at this
 refine⟨ρ'',Im'',⟨fun t x hx=>?_,fun n b hb=>?_,fun n b hb hl hn=>?_,fun n1 n2 b1 b2 h1 h2 l1 l2 i1 i2 hne=>?_,fun b hb=>?_,fun kk it hk n hn=>?_,h.defers,h.size,?_⟩,?_,fun nm hn=>?_⟩
 ·rw[I3] at hx;exact Ca.Bo hIm'' (fun n hn=>holdρ n (h.wf _ _ hx n hn)) (h.fr t x hx)
 ·rcases hcase n b hb with⟨_,hb0⟩|⟨m,b',rfl,hb',rfl⟩
  ·exact BQ.Bo hIm'' (holdρ n (by rw[hb0];simp)) (fun hnil hl=>hblk _ (h.own n b hb0 hl hnil).1 (hS1 n b hb0 hl hnil)) (fun n' hn'=>holdρ n' (h.wf _ _ hb0 n' hn')) (h.bk n b hb0)
  ·refine Blk.F7 (hcar _ fun hf=>?_) (hnewρ m (by rw[hb'];rfl)) (fun _ _=>rfl) (fun n hn=>hnewρ n (hbon _ (AP hb') n hn)) (hm.bk m b' (hst m b' hb'));exact AjL.1 hf.2 _ (AP hb')
 ·rcases hcase n b hb with⟨_,hb0⟩|⟨m,b',rfl,hb',rfl⟩
  ·rw[holdρ n (by rw[hb0];simp)] at hn ⊢;obtain⟨h1,h2⟩:=h.own n b hb0 hl hn;exact⟨by omega,h2⟩
  ·rw[hnewρ m (by rw[hb'];rfl)] at hn ⊢;rw[hlive] at hl;obtain⟨h1,h2⟩:=hm.own m b' (hst m b' hb') hl hn;rcases h2 with h2|h2
   ·exact⟨h1,hS3 _ h2⟩
   ·have:w.heap.size<=(ρ' m).blk:=h2;exact⟨h1,.inr (Akn h.Bo.size this)⟩
 ·rcases hcase n1 b1 h1 with⟨_,hb1⟩|⟨m1,c1,rfl,hc1,rfl⟩<;>rcases hcase n2 b2 h2 with⟨_,hb2⟩|⟨m2,c2,rfl,hc2,rfl⟩
  ·rw[holdρ n1 (by rw[hb1];simp)] at i1 ⊢;rw[holdρ n2 (by rw[hb2];simp)] at i2 ⊢;exact h.inj n1 n2 b1 b2 hb1 hb2 l1 l2 i1 i2 hne
  ·rw[holdρ n1 (by rw[hb1];simp)] at i1 ⊢;rw[hnewρ m2 (by rw[hc2];rfl)] at i2 ⊢;rw[hlive] at l2;have e1:=(h.own n1 b1 hb1 l1 i1).1;rcases (hm.own m2 c2 (hst m2 c2 hc2) l2 i2).2 with e2|e2
   ·exact fun e=>hS1 n1 b1 hb1 l1 i1 (by rw[e];exact e2)
   ·have:w.heap.size<=(ρ' m2).blk:=e2;omega
  ·rw[hnewρ m1 (by rw[hc1];rfl)] at i1 ⊢;rw[holdρ n2 (by rw[hb2];simp)] at i2 ⊢;rw[hlive] at l1;have e1:=(h.own n2 b2 hb2 l2 i2).1;rcases (hm.own m1 c1 (hst m1 c1 hc1) l1 i1).2 with e2|e2
   ·exact fun e=>hS1 n2 b2 hb2 l2 i2 (by rw[<-e];exact e2)
   ·have:w.heap.size<=(ρ' m1).blk:=e2;omega
  ·rw[hnewρ m1 (by rw[hc1];rfl)] at i1 ⊢;rw[hnewρ m2 (by rw[hc2];rfl)] at i2 ⊢;rw[hlive] at l1 l2;exact hm.inj m1 m2 c1 c2 (hst _ _ hc1) (hst _ _ hc2) l1 l2 i1 i2 (fun e=>hne (by rw[e]))
 ·rcases hb with hb|⟨hb,hge⟩
  ·obtain⟨h1,h2,h3⟩:=h.im b hb;refine⟨h1,by omega,fun n bk hk hl hn=>?_⟩;rcases hcase n bk hk with⟨_,hb0⟩|⟨m,c,rfl,hc,rfl⟩
   ·rw[holdρ n (by rw[hb0];simp)] at hn ⊢;exact h3 n bk hb0 hl hn
   ·rw[hnewρ m (by rw[hc];rfl)] at hn ⊢;rw[hlive] at hl;rcases (hm.own m c (hst m c hc) hl hn).2 with e2|e2
    ·exact fun e=>hS2 b hb (by rw[<-e];exact e2)
    ·have:w.heap.size<=(ρ' m).blk:=e2;omega
  ·obtain⟨h1,h2,h3⟩:=hm.im b hb;refine⟨.inr (Akn h.Bo.size hge),h2,fun n bk hk hl hn=>?_⟩;rcases hcase n bk hk with⟨_,hb0⟩|⟨m,c,rfl,hc,rfl⟩
   ·rw[holdρ n (by rw[hb0];simp)] at hn ⊢;have:=(h.own n bk hb0 hl hn).1;omega
   ·rw[hnewρ m (by rw[hc];rfl)] at hn ⊢;rw[hlive] at hl;exact h3 m c (hst m c hc) hl hn
 ·have hkept:∀q,σ (.b q)≠none->σ.Cl (PY g bo) (.b q)≠none:=fun q hq=>by
   cases hl:look q with
   |none=>rw[hσ q hl];exact hq
   |some p=>
    obtain⟨h1,h2⟩:=FN hl;obtain⟨b',hb'⟩:=Akk.1 (C7 h1);rw[<-h2,hσn p.1 b' hb'];simp
  cases kk with
  |s t=>rw[I3] at hk;exact hkept n (h.wf _ _ hk n hn)
  |b n'=>
   cases it with
   |v x=>
    cases hl:look n' with
    |none=>rw[hσ n' hl] at hk;exact hkept n (h.wf _ _ hk n hn)
    |some p=>
     obtain⟨h1,h2⟩:=FN hl;obtain⟨b',hb'⟩:=Akk.1 (C7 h1);rw[<-h2,hσn p.1 b' hb'] at hk;injection hk with hk;cases hk
   |k b=>
    rcases hcase n' b hk with⟨_,hb0⟩|⟨m,b',rfl,hb',rfl⟩
    ·exact hkept n (h.wf _ _ hb0 n hn)
    ·have:=Blk.Bf hn;rw[Blk.ET] at this;obtain⟨q,hq,rfl⟩:=Aj5.1 this;obtain⟨c,hc⟩:=Akk.1 (hbon _ (AP hb') q hq);rw[hσn q c hc];simp
 ·exact h.Bo.step hkeep.os hkeep.tape hkeep.output hsize (fun b hb hE=>hblk b (by have:=h.Bo.size;omega) (fun hS=>(hS3 b hS).elim hE (fun h=>by omega)))
 ·exact AV.F7 hpl (hcar _ fun hf=>hf.1) (fun n hn=>hnewρ n (hresn n hn)) hr
 ·have hnn:∃q∈res.names,nm=g q:=by
   have hcs:∀cs:List C,(cs.map (C.ren g)).any (·.mentions nm)=true->∃q∈cs.flatMap C.names,nm=g q:=fun cs hcs=>by
    have:=Cs.Bf hcs;rw[Cs.ET] at this;obtain⟨q,hq,e⟩:=Aj5.1 this;exact⟨q,hq,e.symm⟩
   have h0:∀y:AV,y.Pb=true->(y.Aba g).A3 nm=true->∃q∈y.CE,nm=g q:=fun y hp hy=>by
    cases y with
    |c x=>
     obtain⟨q,hq,e⟩:=hcs [x] (by simpa [AV.A3,AV.Aba] using hy);exact⟨q,by simpa [AV.CE] using hq,e⟩
    |agg cs=>exact hcs cs hy
    |tup vs=>cases hp
    |ep g m=>cases hy
    |rp n sz i o=>have:g n=nm:=by simpa [AV.A3,AV.Aba] using hy
                  exact⟨n,by simp[AV.CE],this.symm⟩
    |sub n sz i o=>cases hp
    |clo φ=>cases hp
    |fnc f caps=>exact hcs caps hy
   cases res with
   |tup vs=>
    simp only[AV.ren,AV.mentions,List.any_map,AjM] at hn;obtain⟨y,hy,hm⟩:=hn;simp only[AV.Mj,AjL] at hpl;obtain⟨q,hq,e⟩:=h0 y (hpl y hy) hm;exact⟨q,List.mem_flatMap.2 ⟨y,hy,hq⟩,e⟩
   |c x=>exact h0 (.c x) hpl hn
   |agg cs=>exact h0 (.agg cs) hpl hn
   |ep g m=>exact h0 (.ep g m) hpl hn
   |rp n sz i o=>exact h0 (.rp n sz i o) hpl hn
   |sub n sz i o=>cases hpl
   |clo φ=>cases hpl
   |fnc f caps=>exact h0 (.fnc f caps) hpl hn
  obtain⟨q,hq,rfl⟩:=hnn;obtain⟨b,hb⟩:=Akk.1 (hresn q hq);rw[hσn q b hb];simp
end
def Ch (K:List Nat) (r:Nat->RI):List (Nat×Blk):=K.map fun n=>(9000+n,.pin n (r n))
def FnW (P:Program) (f:FuncId) (args:List AV) (bin:List (Nat×Blk)) (K:List Nat) (res:AV) (bout:List (Nat×Blk)):Prop:=
 ∀r:Nat->RI,FnS P f args (Ch K r++bin) res (Ch K r++bout)
inductive AX (P:Program) (σ:St) (f:Nat->Nat) (L:List Nat):AV->AV->Prop where
 |w {x y:AV}:AW σ f L x y->y.Pe=true->AX P σ f L x y
 |r {x y:AV}:AR P σ L x y->AX P σ f L x y
theorem CW.of_same {σ σ':St} {f:Nat->Nat} {L:List Nat} (hL:∀nm∈L,σ' (.b nm)=σ (.b nm)) {x y:C} (h:CW σ f L x y):CW σ' f L x y:=by
 cases h with
 |d=>exact .d
 |nil=>exact .nil
 |ptr h=>exact .ptr h
 |row h h'=>exact .row h h'
 |fn h=>exact .fn h
 |mp h=>exact .mp h
 |imp h=>exact .imp h
 |frz h1 h2 h3 h4=>exact .frz h1 (by rw[hL _ h1];exact h2) h3 h4
 |cr h=>exact .cr (h.of_same hL)
theorem AW.of_same {σ σ':St} {f:Nat->Nat} {L:List Nat} (hL:∀nm∈L,σ' (.b nm)=σ (.b nm)) {x y:AV} (h:AW σ f L x y):AW σ' f L x y:=by
 cases h with
 |c h=>exact .c (h.of_same hL)
 |agg h=>exact .agg (h.imp fun _ _ _ h=>h.of_same hL)
 |ep=>exact .ep
 |rp h=>exact .rp h
 |sub h=>exact .sub h
 |clo=>exact .clo
 |fnc=>exact .fnc
 |Ahy h=>exact .Ahy (h.imp fun _ _ _ h=>h.of_same hL)
theorem BW.of_same {σ σ':St} {f:Nat->Nat} {L:List Nat} (hL:∀nm∈L,σ' (.b nm)=σ (.b nm)) {x y:Blk} (h:BW σ f L x y):BW σ' f L x y:=by
 have hh:∀{xs ys:List (List C)},Bh (Bh (CW σ f L)) xs ys->Bh (Bh (CW σ' f L)) xs ys:=fun h=>h.imp fun _ _ _ h=>h.imp fun _ _ _ h=>h.of_same hL
 cases h with
 |box h=>exact .box (h.imp fun _ _ _ h=>h.of_same hL)
 |row h=>exact .row (hh h)
 |full h=>exact .full (hh h)
 |shut n h=>exact .shut n (hh h)
 |AaS n h=>exact .AaS n (hh h)
 |map h=>exact .map (h.imp fun _ _ _ h=>⟨h.1,h.2.of_same hL⟩)
 |pin h=>exact .pin h
theorem AX.of_same {P:Program} {σ σ':St} {f:Nat->Nat} {L:List Nat} (hL:∀nm∈L,σ' (.b nm)=σ (.b nm)) {x y:AV} (h:AX P σ f L x y):AX P σ' f L x y:=by
 cases h with
 |w h h'=>exact .w (h.of_same hL) h'
 |r h=>exact .r (h.of_same hL)
theorem Ej {σ:St} {f:Nat->Nat} {L:List Nat}:∀{l:List (Nat×Blk)},Gz σ f L l->∀p∈l,∃y,σ (.b (f p.1))=some (.k y)/\BW σ f L y p.2
 |q :: l,h,p,hp=>by
  rcases AjO.1 hp with rfl|hp
  ·exact h.1
  ·exact Ej h.2 p hp
theorem G7 {σ σ':St} {f:Nat->Nat} {L:List Nat} (hL:∀nm∈L,σ' (.b nm)=σ (.b nm)):∀{l:List (Nat×Blk)},Gz σ f L l->(∀p∈l,σ' (.b (f p.1))=σ (.b (f p.1)))->Gz σ' f L l
 |[],_,_=>trivial
 |p :: l,h,hk=>⟨by obtain⟨y,h1,h2⟩:=h.1;exact⟨y,by rw[hk p (by simp)];exact h1,h2.of_same hL⟩,G7 hL h.2 fun q hq=>hk q (by simp[hq])⟩
theorem Ci {α:Type}:∀(l m:List (Nat×α)) (n:Nat),As (l++m) n=(As l n).or (As m n)
 |[],m,n=>by simp[As]
 |(k,x) :: l,m,n=>by
  simp only[Akt,As];cases Nat.beq k n with
  |true=>rfl
  |false=>exact Ci l m n
theorem Ih {K:List Nat} {r:Nat->RI} {q:Nat} {b:Blk} (h:As (Ch K r) q=some b):∃n∈K,q=9000+n/\b=.pin n (r n):=by
 have:=AP h;simp only[Ch,Aj5] at this;obtain⟨n,hn,e⟩:=this;injection e with e1 e2
 exact⟨n,hn,e1.symm,e2.symm⟩
theorem A8.AbA {P:Program} {N:Nat} {E:Env P N} {a:Act} {w:World} {ρ:Nat->RI} {Im:Nat->Prop}:∀(l:List Nat) {σ:St},A8 E σ a w ρ Im->A8 E (σ.Cl (l.map fun n=>(Key.b n,some (Item.k .dead)))) a w ρ Im
 |[],_,h=>h
 |n :: l,_,h=>A8.AbA l (h.kill n)
theorem Ij:∀(l:List Nat) (σ:St) (n:Nat),n∈l->σ.Cl (l.map fun n=>(Key.b n,some (Item.k .dead))) (.b n)=some (.k .dead)
 |m :: l,σ,n,h=>by
  by_cases hl:n∈l
  ·exact Ij l _ n hl
  ·have:n=m:=by rcases AjO.1 h with h|h;exact h;exact absurd h hl
   subst this;have hk:∀(l:List Nat) (σ:St),n∉l->σ.Cl (l.map fun n=>(Key.b n,some (Item.k .dead))) (.b n)=σ (.b n):=by
    intro l
    induction l with
    |nil=>intro σ _;rfl
    |cons m l ih=>intro σ hn;exact(ih _ fun h=>hn (by simp[h])).trans (St.At _ _ (by intro e;injection e with e;exact hn (by simp[e])))
   exact(hk l _ hl).trans (St.AM _ _ _)
theorem Gw:∀(l:List Nat) (σ:St) (n:Nat),n∉l->σ.Cl (l.map fun n=>(Key.b n,some (Item.k .dead))) (.b n)=σ (.b n)
 |[],_,_,_=>rfl
 |m :: l,σ,n,h=>(Gw l _ n fun hn=>h (by simp[hn])).trans (St.At _ _ (by intro e;injection e with e;exact h (by simp[e])))
theorem A8.freeze {P:Program} {N:Nat} {E:Env P N} {σ:St} {a:Act} {w:World} {ρ:Nat->RI} {Im:Nat->Prop} (hs:A8 E σ a w ρ Im) (hS:∀b,¬E.S0 b) (L:List Nat):
  A8 E (σ.Cl (L.map fun n=>(Key.b n,some (Item.k .dead)))) a w ρ (Bk σ ρ Im L):=by
 have h:=hs.AbA L;have hsub:∀b,Im b->Bk σ ρ Im L b/\w.heap[b]?=w.heap[b]?:=fun b hb=>⟨.inl hb,rfl⟩
 refine⟨fun t x hx=>Ca.Bo hsub (fun _ _=>rfl) (h.fr t x hx),fun n b hb=>BQ.Bo hsub rfl (fun _ _=>rfl) (fun _ _=>rfl) (h.bk n b hb),h.own,h.inj,fun b hb=>?_,h.wf,h.defers,h.size,h.Bo⟩;refine⟨?_,Ct hs b hb,fun n bk hn hl hnil=>?_⟩
 ·rcases hb with hb|⟨nm,_,bk,h1,h2,h3,rfl⟩
  ·exact(hs.im b hb).1
  ·rcases (hs.own nm bk h1 h2 h3).2 with h4|h4
   ·exact absurd h4 (hS _)
   ·exact .inr h4
 ·by_cases hin:n∈L
  ·rw[Ij _ _ _ hin] at hn;injection hn with hn;injection hn with hn;subst hn
   cases hl
  ·rw[Gw _ _ _ hin] at hn;rcases hb with hb|⟨nm,hnm,bk',h1,h2,h3,rfl⟩
   ·exact(hs.im b hb).2.2 n bk hn hl hnil
   ·exact hs.inj n nm bk bk' hn h1 hl h2 hnil h3 (fun e=>hin (by rw[e];exact hnm))
def Su:List Nat->Nat->Bool
 |[],_=>false
 |m :: l,n=>(m == n)||Su l n
theorem Ph:∀{l:List Nat} {n:Nat},Su l n=true↔n∈l
 |[],n=>by simp[Su]
 |m :: l,n=>by
  rw[Su,Aks,Ph (l:=l),AjO];constructor
  ·rintro(h|h)
   ·exact .inl (by have:=AjT (show decide (m=n)=true from by simpa using h);exact this.symm)
   ·exact .inr h
  ·rintro(h|h)
   ·exact .inl (by subst h;simp)
   ·exact .inr h
def nmL:List (Nat×Nat)->Nat->Nat
 |[],n=>n
 |(a,b) :: l,n=>bif a == n then b else nmL l n
def gW (f:Nat->Nat) (K:List Nat) (d n:Nat):Nat:=bif Su K n then f n else 1000*d+n
def Afm (g:Nat->Nat):List (Nat×Blk)->Bool
 |[]=>true
 |p :: l=>l.all (fun q=>Nat.beq p.1 q.1||!Nat.beq (g p.1) (g q.1))&&Afm g l
theorem TO {g:Nat->Nat}:∀{l:List (Nat×Blk)},Afm g l=true->∀p∈l,∀q∈l,g p.1=g q.1->p.1=q.1
 |p :: l,h,x,hx,y,hy,e=>by
  simp only[Afm,AjE,AjL,Aks,Bool.not_eq_true'] at h;rcases AjO.1 hx with e1|h1<;>rcases AjO.1 hy with e2|h2
  ·rw[e1,e2]
  ·subst e1;rcases h.1 y h2 with h3|h3
   ·simpa using h3
   ·rw[e] at h3;simp at h3
  ·subst e2;rcases h.1 x h1 with h3|h3
   ·have:y.1=x.1:=by simpa using h3
    exact this.symm
   ·rw[e] at h3;simp at h3
  ·exact TO h.2 x h1 y h2 e
section
variable {d:Nat} {ty:TypeId} {pos:String} {af:Array Edge} {gd:Option (Nat×Bool)} {gR:Ck}
theorem AX.ok {a:Act} {w:World} {ρ:Nat->RI} {Im:Nat->Prop} {f:Nat->Nat} {L:List Nat} (hs:A8 E σ a w ρ Im) {S:Nat->Prop} (hS1:∀b,Bk σ ρ Im L b->¬S b) (hS3:∀b,S b->E.S0 b\/E.w0.heap.size<=b) {x y:AV} {v:Value} (h:AX P σ f L x y) (hr:Ca E ρ w Im x v):
  Ca (⟨w,Bk σ ρ Im L,S⟩:Env P 0) (fun n=>ρ (f n)) w (Bk σ ρ Im L) y v:=by
 cases h with
 |w h h'=>exact Ca.AgR h' (h.ok hs hr)
 |r h=>exact AR.okS hs hS1 hS3 h hr
theorem AaM {fid:FuncId} {y:Operand} {caps:List C} {xs:List Operand} {ats:Array TypeId} {as cargs:List AV} {res res':AV} {bin bo:List (Nat×Blk)} {U:Ck} (f:Nat->Nat) (L KK:List Nat) (hF:FnW P fid cargs bin KK res bo) (hg:GOK N ops σ gd gR)
  (hy:ev σ y=some (.fnc fid caps)) (hxs:evL σ xs=some as) (hA:Bh (AX P σ f L) (as++caps.map AV.c) cargs) (hB:Gz σ f L bin) (hi:HN f L bin=true) (hlive:(bin.all fun p=>p.2.live&&Nat.blt p.1 9000)=true)
  (hK:(KK.all fun n=>(As bin n).isSome)=true) (hfl:(L.isEmpty||(res.flat&&bo.all fun p=>p.2.flat))=true) (hpl:res.Mj=true) (hwf:BC res bo=true) (hbo:(bo.all fun p=>Nat.blt p.1 9000)=true)
  (hgi:Afm (gW f KK d) bo=true) (hfresh:(bo.all fun p=>Su KK p.1||(σ (.b (1000*d+p.1))).isNone)=true) (hU:PY (gW f KK d) bo=U) (hres:res.ren (gW f KK d)=res') (hN:Nat.blt d N=true)
  (k:VR E ops dr rest (((σ.Cl ((bin.map fun p=>f p.1).map fun n=>(Key.b n,some (Item.k .dead)))).Cl U).set d res')
    ((gR.map (·.1)++(opK y++(Jf xs++((bin.map fun p=>Key.b (f p.1))++(L.map Key.b++bo.map fun p=>Key.b (gW f KK d p.1))))),(bin.map fun p=>Key.b (f p.1))++(U.map (·.1)++[.s d])) :: tr) K):
  VR E ops dr (⟨some d,.call ⟨.value y,xs.toArray,ats⟩,ty,pos,af,gd⟩ :: rest) σ tr K:=by
 subst hU;subst hres;have hupds:∀(U V:Ck) (s:St),s.Cl (U++V)=(s.Cl U).Cl V:=by
  intro U V
  induction U with
  |nil=>intro s;rfl
  |cons p U ih=>intro s;exact ih _
 have hkeys:∀l:List (Nat×Blk),((l.map fun p=>f p.1).map fun n=>(Key.b n,some (Item.k .dead))).map (·.1)=l.map fun p=>Key.b (f p.1):=fun l=>by simp[Function.comp_def]
 refine EP (R:=opR y (.fnc fid caps)++(TB xs as++((bin.map fun p=>(Key.b (f p.1),σ (.b (f p.1))))++(L.map (fun nm=>(Key.b nm,σ (.b nm)))++bo.map fun p=>(Key.b (gW f KK d p.1),σ (.b (gW f KK d p.1)))))))
  (U:=((bin.map fun p=>f p.1).map fun n=>(Key.b n,some (Item.k .dead)))++(PY (gW f KK d) bo++[(.s d,some (.v (res.ren (gW f KK d))))]))
  (kr:=opK y++(Jf xs++((bin.map fun p=>Key.b (f p.1))++(L.map Key.b++bo.map fun p=>Key.b (gW f KK d p.1))))) (ku:=(bin.map fun p=>Key.b (f p.1))++((PY (gW f KK d) bo).map (·.1)++[.s d])) hg (fun σ' a w ρ Im hs hR Kk Q hKk=>?_)
  (Ah (Bp hy) (Ah (FJ hxs) (Ah (fun p hp=>by obtain⟨q,_,rfl⟩:=Aj5.1 hp;rfl) (Ah (fun p hp=>by obtain⟨nm,_,rfl⟩:=Aj5.1 hp;rfl) (fun p hp=>by obtain⟨nm,_,rfl⟩:=Aj5.1 hp;rfl)))))
  (by simp[A4,Dx hxs,Akl,Function.comp_def]) (by rw[Akl,hkeys];simp) (by rw[hupds,hupds];exact k)
 obtain⟨us,hfv,hcaps⟩:=(B5 hs (Cb hy fun p hp=>hR p (AjA _ hp))).1;have h1:=Hm hxs fun p hp=>hR p (Ajz _ (AjA _ hp))
 have hBs:∀p∈bin,σ' (.b (f p.1))=σ (.b (f p.1)):=fun p hp=>hR (.b (f p.1),σ (.b (f p.1))) (Ajz _ (Ajz _ (AjA _ (Aj5.2 ⟨p,hp,rfl⟩))))
 have hL:∀nm∈L,σ' (.b nm)=σ (.b nm):=fun nm hnm=>hR (.b nm,σ (.b nm)) (Ajz _ (Ajz _ (Ajz _ (AjA _ (Aj5.2 ⟨nm,hnm,rfl⟩)))))
 have hfr:∀p∈bo,σ' (.b (gW f KK d p.1))=σ (.b (gW f KK d p.1)):=fun p hp=>hR (.b (gW f KK d p.1),σ (.b (gW f KK d p.1))) (Ajz _ (Ajz _ (Ajz _ (Ajz _ (Aj5.2 ⟨p,hp,rfl⟩)))))
 have hB':=G7 hL hB hBs;have hlv:∀p∈bin,p.2.live=true/\p.1<9000:=fun p hp=>by
  have:=AjL.1 hlive p hp;simp only[AjE] at this;exact⟨this.1,by simpa using this.2⟩
 let S:Nat->Prop:=fun b=>∃p∈bin,(ρ (f p.1)).isNil=false/\b=(ρ (f p.1)).blk
 have hlook:∀p∈bin,∃x,As bin p.1=some x:=fun p hp=>Akk.1 (C7 hp)
 have hS1:∀b,Bk σ' ρ Im L b->¬S b:=fun b hb1 hS=>by
  obtain⟨p,hp,hnil,rfl⟩:=hS;obtain⟨z,hz,hw⟩:=Ej hB' p hp;have hzl:=hw.live (hlv p hp).1;rcases hb1 with hb1|⟨q,hq,bk,g1,g2,g3,g4⟩
  ·exact(hs.im _ hb1).2.2 _ z hz hzl hnil rfl
  ·obtain⟨x,hx⟩:=hlook p hp;exact hs.inj _ _ z bk hz g1 hzl g2 hnil g3 (MB hi hx q hq) g4.symm
 have hS3:∀b,S b->E.S0 b\/E.w0.heap.size<=b:=fun b hS=>by
  obtain⟨p,hp,hnil,rfl⟩:=hS;obtain⟨z,hz,hw⟩:=Ej hB' p hp;exact(hs.own _ z hz (hw.live (hlv p hp).1) hnil).2
 have hargs:=(JX hs h1).append (DH (f:=AV.c) hcaps fun x _ v h=>h);have hcargs:Bh (Ca (⟨w,Bk σ' ρ Im L,S⟩:Env P 0) (fun n=>ρ (f n)) w (Bk σ' ρ Im L)) cargs (xs.map a.eval++us):=by
  have hA':Bh (AX P σ' f L) (as++caps.map AV.c) cargs:=hA.imp fun _ _ _ h=>h.of_same hL
  exact J8 hA' hargs fun _ _ _ h1 h2=>h1.ok hs hS1 hS3 h2
 have hsb:∀n x,As bin n=some x->∃z,σ' (.b (f n))=some (.k z)/\BW σ' f L z x:=fun n x hx=>BJ hB' hx
 have hlvL:∀n x,As bin n=some x->x.live=true:=fun n x hx=>(hlv _ (AP hx)).1
 have hmem:F1 (⟨w,Bk σ' ρ Im L,S⟩:Env P 0) (AN [] (Ch KK (fun n=>ρ (f n))++bin)) w (fun n=>ρ (f n)) (Bk σ' ρ Im L):=by
  have hone:∀q b,AN [] (Ch KK (fun n=>ρ (f n))++bin) (.b q)=some (.k b)->(∃n,b=.pin n (ρ (f n)))\/As bin q=some b:=fun q b hq=>by
   simp only[AN,Ci] at hq;cases h0:As (Ch KK (fun n=>ρ (f n))) q with
   |some b'=>
    rw[h0] at hq;simp only[Option.or,AkM,AjW] at hq;injection hq with hq
    subst hq;obtain⟨n,_,_,rfl⟩:=Ih h0;exact .inl ⟨n,rfl⟩
   |none=>
    rw[h0] at hq;simp only[Option.or,Akh] at hq;obtain⟨x,hx,e⟩:=hq;injection e with e;subst e
    exact .inr hx
  have hl:∀q b,AN [] (Ch KK (fun n=>ρ (f n))++bin) (.b q)=some (.k b)->b.live=true->As bin q=some b:=fun q b hq hb=>by
   rcases hone q b hq with⟨n,rfl⟩|h
   ·cases hb
   ·exact h
  refine⟨fun q b hq=>?_,fun q b hq hl1 hn=>?_,fun n1 n2 b1 b2 q1 q2 l1 l2 i1 i2 hne=>?_,fun b hb1=>⟨.inl hb1,Ct hs b hb1,fun q bk hq hl1 hn e=>?_⟩,IL.refl _ _⟩
  ·rcases hone q b hq with⟨n,rfl⟩|h
   ·rfl
   ·obtain⟨z,hz,hw⟩:=hsb q b h;exact hw.ok hs (hs.bk _ z hz)
  ·have hx:=hl q b hq hl1;obtain⟨z,hz,hw⟩:=hsb q b hx;exact⟨(hs.own _ z hz (hw.live hl1) hn).1,.inl ⟨_,AP hx,hn,rfl⟩⟩
  ·have hx1:=hl _ _ q1 l1;have hx2:=hl _ _ q2 l2;obtain⟨z1,hz1,hw1⟩:=hsb _ _ hx1;obtain⟨z2,hz2,hw2⟩:=hsb _ _ hx2;exact hs.inj _ _ z1 z2 hz1 hz2 (hw1.live l1) (hw2.live l2) i1 i2 (Io hi hx1 hx2 hne)
  ·have hx:=hl _ _ hq hl1;exact hS1 b hb1 ⟨_,AP hx,hn,e.symm⟩
 obtain⟨hen,hcall⟩:=hF fun n=>ρ (f n)
 have hc:=hcall w (fun n=>ρ (f n)) (Bk σ' ρ Im L) S (xs.map a.eval++us) hcargs hmem;unfold Oper.wp;have hrun:(execOp a.eval ⟨some d,.call ⟨.value y,xs.toArray,ats⟩,ty,pos,af,gd⟩).run P w=.ok (.enter fid (xs.map a.eval++us).toArray) w:=by
  have he:a.eval y=.func (.func fid) #[] us.toArray:=hfv;simp only[execOp,resolve,Sem.run_bind,he,Deferred.ofValue,Sem.run_pure,Result.andThen_ok,invoke];have:(#[]++(xs.toArray.map a.eval)++us.toArray:Array Value)=(xs.map a.eval++us).toArray:=by simp
  rw[this];exact hen _ _
 rw[hrun,Oper.upon_enter];refine hc.mono fun e w' ⟨v,ρ',Im',he,hm,hresv,_⟩=>?_
 subst he;have hfl':(∀b,Bk σ' ρ Im L b->Im b)\/(res.flat=true/\bo.all (fun p=>p.2.flat)=true):=by
  simp only[Aks,AjE] at hfl;rcases hfl with hl|hl
  ·left
   intro b hb;have:L=[]:=by simpa using hl
   subst this;rcases hb with hb|⟨nm,hnm,_⟩
   ·exact hb
   ·cases hnm
  ·exact .inr hl
 have hbo':∀n x,As bo n=some x->AN [] (Ch KK (fun n=>ρ (f n))++bo) (.b n)=some (.k x):=fun n x hx=>by
  have hn:n<9000:=by
   have:=AjL.1 hbo _ (AP hx);simpa using this
  simp only[AN,Ci];cases h0:As (Ch KK (fun n=>ρ (f n))) n with
  |some b'=>obtain⟨m,_,e,_⟩:=Ih h0;omega
  |none=>simp[hx]
 have hm':F1 (⟨w,Bk σ' ρ Im L,S⟩:Env P 0) (AN [] bo) w' ρ' Im':=by
  have hst:∀n x,AN [] bo (.b n)=some (.k x)->AN [] (Ch KK (fun n=>ρ (f n))++bo) (.b n)=some (.k x):=fun n x hx=>by
   simp only[AN,Akh] at hx;obtain⟨y,hy,e⟩:=hx;injection e with e;subst e
   exact hbo' n y hy
  exact⟨fun n b hb=>hm.bk n b (hst n b hb),fun n b hb=>hm.own n b (hst n b hb),fun n1 n2 b1 b2 h1 h2=>hm.inj n1 n2 b1 b2 (hst _ _ h1) (hst _ _ h2),fun b hb=>⟨(hm.im b hb).1,(hm.im b hb).2.1,fun n bk hk=>(hm.im b hb).2.2 n bk (hst _ _ hk)⟩,hm.Bo⟩
 have hpin:∀n,n∈KK->ρ' n=ρ (f n):=fun n hn=>by
  have hlk:∀l:List Nat,n∈l->As (Ch l fun n=>ρ (f n)) (9000+n)=some (.pin n (ρ (f n))):=by
   intro l
   induction l with
   |nil=>intro h;cases h
   |cons m l ih=>
    intro h;show(bif Nat.beq (9000+m) (9000+n) then _ else _)=_;by_cases e:m=n
    ·subst e;simp
    ·have:Nat.beq (9000+m) (9000+n)=false:=by
      cases hb:Nat.beq (9000+m) (9000+n) with
      |false=>rfl
      |true=>have:=Aki hb;omega
     rw[this];exact ih (by rcases AjO.1 h with h|h;exact absurd h.symm e;exact h)
  have:=hm.bk (9000+n) (.pin n (ρ (f n))) (by simp only[AN,Ci,hlk KK hn];rfl);exact this
 have hs1:=hs.AbA (bin.map fun p=>f p.1);have hdead:∀n,n∈KK->σ'.Cl ((bin.map fun p=>f p.1).map fun n=>(Key.b n,some (Item.k .dead))) (.b (f n))=some (.k .dead):=fun n hn=>by
  refine Ij _ _ _ ?_;have:=AjL.1 hK n hn;obtain⟨x,hx⟩:=Akk.1 this;exact Aj5.2 ⟨_,AP hx,rfl⟩
 obtain⟨ρ'',Im'',hs'',hr'',hm''⟩:=hs1.AcT (g:=gW f KK d) (S:=S) (fun n b hn hl hnil hS=>by
   obtain⟨p,hp,hpn,e⟩:=hS;by_cases hin:n∈bin.map fun p=>f p.1
   ·rw[Ij _ _ _ hin] at hn;injection hn with hn;injection hn with hn;subst hn
    cases hl
   ·rw[Gw _ _ _ hin] at hn;obtain⟨z,hz,hw⟩:=Ej hB' p hp;exact hs.inj n _ b z hn hz hl (hw.live (hlv p hp).1) hnil hpn (fun e=>hin (Aj5.2 ⟨p,hp,e.symm⟩)) e) (fun b hb1 hS=>hS1 b (.inl hb1) hS) hS3 hm' hresv hfl' hpl hwf (TO hgi) (fun p hp=>by
   by_cases hk:Su KK p.1=true
   ·have hkm:p.1∈KK:=Ph.1 hk;have e:gW f KK d p.1=f p.1:=by simp[gW,hk]
    rw[e];exact .inr ⟨hdead _ hkm,hpin _ hkm⟩
   ·have hkm:Su KK p.1=false:=by simpa using hk
    have e:gW f KK d p.1=1000*d+p.1:=by simp[gW,hkm]
    have hn:σ' (.b (gW f KK d p.1))=none:=by
     rw[hfr p hp,e];have:=AjL.1 hfresh p hp;simpa [hkm] using this
    left
    by_cases hin:gW f KK d p.1∈bin.map fun p=>f p.1
    ·obtain⟨q,hq,e⟩:=Aj5.1 hin;obtain⟨z,hz,_⟩:=Ej hB' q hq;rw[<-e] at hn;rw[hz] at hn;cases hn
    ·rw[Gw _ _ _ hin];exact hn)
 refine hKk _ _ ⟨ρ'',Im'',?_⟩;rw[hupds,hupds];exact hs''.put (by simpa using hN) hr'' hm''
theorem A1 {fid:FuncId} {y:Operand} {caps:List C} {xs:List Operand} {ats:Array TypeId} {as cargs:List AV} {res res':AV} {bin bo:List (Nat×Blk)} {U:Ck} (f:Nat->Nat) (L KK:List Nat) (hF:FnW P fid cargs bin KK res bo) (k:VR E ops dr rest (((σ.Cl ((bin.map fun p=>f p.1).map fun n=>(Key.b n,some (Item.k .dead)))).Cl U).set d res')
   ((gR.map (·.1)++(opK y++(Jf xs++((bin.map fun p=>Key.b (f p.1))++(L.map Key.b++bo.map fun p=>Key.b (gW f KK d p.1))))),(bin.map fun p=>Key.b (f p.1))++(U.map (·.1)++[.s d])) :: tr) K) (hg:GOK N ops σ gd gR:=by exact gk rfl) (hy:ev σ y=some (.fnc fid caps):=by exact rfl) (hxs:evL σ xs=some as:=by exact rfl) (hA:Bh (AX P σ f L) (as++caps.map AV.c) cargs:=by first|((repeat'(first|exact .nil|refine .cons ?_ ?_|exact .w (.c (.ptr rfl)) rfl|exact .r (.of0 (.c .d))))<;>fail)|((repeat'(first|exact .nil|refine .cons ?_ ?_|exact .w (.c (.ptr rfl)) rfl|exact .w (.c (.row rfl rfl)) rfl|exact .w (.c (.mp rfl)) rfl|exact .w (.c (.fn rfl)) rfl|exact .w (.rp rfl) rfl|(refine .w (.Ahy ?_) rfl;repeat'(first|exact .nil|refine .cons ?_ ?_|exact .d|exact .ptr rfl|exact .row rfl rfl|(refine .row rfl ?_;((try dsimp only);first|rfl|omega|(simp only[lns]<;>omega));done)|exact .fn rfl|exact .mp rfl|exact .Bm (by first|(simp;done)|decide) rfl rfl (fun _=>rfl)))|exact .r (.of0 (.c .d))|refine .r ?_|exact .of0 (.c .d)|exact .of0 .ep|exact .clo|exact .of0 (.c .nil)|exact .of0 (.c (CL (by simp) rfl (by first|rfl|omega) (fun _=>rfl)))|refine .of0 (.agg ?_)|exact .d|exact .nil|exact .of0 (.c (M0 (by decide) rfl rfl (by repeat'(first|exact tt0|refine⟨?_,?_⟩|rfl))))))<;>fail)|((repeat'(first|exact .nil|refine .cons ?_ ?_|exact .w (.c (.ptr rfl)) rfl|refine .r ?_|refine .of0 (.agg ?_)|exact .d))<;>fail)|((repeat'(first|exact .nil|refine .cons ?_ ?_|refine .r ?_|refine .of0 (.agg ?_)|exact .d))<;>fail)|((repeat'(first|exact .nil|refine .cons ?_ ?_|exact .w (.c (.ptr rfl)) rfl))<;>fail)) (hB:Gz σ f L bin:=by first|((repeat'(first|exact tt0|refine⟨⟨_,rfl,?_⟩,?_⟩|exact .CJ rfl Ai|refine .box ?_|exact .nil|refine .cons ?_ ?_|exact .d|exact .row rfl rfl))<;>fail)|((repeat'(first|exact tt0|refine⟨⟨_,rfl,?_⟩,?_⟩|exact .FA rfl rfl|exact .CJ rfl Ai|exact .Abw (fun _=>rfl) rfl|exact .pin rfl|refine .box ?_|exact .nil|refine .cons ?_ ?_|exact .d|exact .ptr rfl|exact .row rfl rfl|(refine .row rfl ?_;((try dsimp only);first|rfl|omega|(simp only[lns]<;>omega));done)|exact .fn rfl|exact .mp rfl|exact .Bm (by first|(simp;done)|decide) rfl rfl (fun _=>rfl)))<;>fail)|((repeat'(first|exact tt0|refine⟨⟨_,rfl,?_⟩,?_⟩|exact .FA rfl rfl|exact .CJ rfl Ai|refine .box ?_|exact .nil|refine .cons ?_ ?_|exact .d|exact .row rfl rfl))<;>fail)|((repeat'(exact trivial))<;>fail)) (hi:HN f L bin=true:=by exact rfl) (hlive:(bin.all fun p=>p.2.live&&Nat.blt p.1 9000)=true:=by exact rfl) (hK:(KK.all fun n=>(As bin n).isSome)=true:=by exact rfl) (hfl:(L.isEmpty||(res.flat&&bo.all fun p=>p.2.flat))=true:=by first|rfl|(simp only[AkD,AkJ,Ta];rfl)|exact rfl) (hpl:res.Mj=true:=by exact rfl) (hwf:BC res bo=true:=by first|rfl|(simp only[BC,wfL,Bj,wfs,AA,Az];rfl)|exact rfl) (hbo:(bo.all fun p=>Nat.blt p.1 9000)=true:=by exact rfl) (hgi:Afm (gW f KK d) bo=true:=by exact rfl) (hfresh:(bo.all fun p=>Su KK p.1||(σ (.b (1000*d+p.1))).isNone)=true:=by exact rfl) (hU:PY (gW f KK d) bo=U:=by(simp only[PY,Akq,Aku,Blk.ren,C.ren,QC,Vc,Vb,gW,Su,nmL,Nat.reduceBEq,AkK,Bool.or_true,Bool.false_or,Bool.true_or,cond_true,cond_false,Nat.reduceMul,Nat.reduceAdd])<;>rfl) (hres:res.ren (gW f KK d)=res':=by(simp only[AV.ren,AV.Aba,Akq,Aku,C.ren,gW,Su,nmL,Nat.reduceBEq,AkK,Bool.or_true,Bool.false_or,Bool.true_or,cond_true,cond_false,Nat.reduceMul,Nat.reduceAdd])<;>rfl) (hN:Nat.blt d N=true:=by exact rfl):VR E ops dr (⟨some d,.call ⟨.value y,xs.toArray,ats⟩,ty,pos,af,gd⟩ :: rest) σ tr K:=AaM f L KK hF hg hy hxs hA hB hi hlive hK hfl hpl hwf hbo hgi hfresh hU hres hN k
theorem AaL {fid:FuncId} {y:Operand} {caps:List C} {xs:List Operand} {ats:Array TypeId} {as cargs:List AV} {res res':AV} {bin bo:List (Nat×Blk)} {U:Ck} (f:Nat->Nat) (L KK:List Nat) (hF:FnW P fid cargs bin KK res bo) (hg:GOK N ops σ gd gR)
  (hy:ev σ y=some (.fnc fid caps)) (hxs:evL σ xs=some as) (hA:Bh (AX P σ f L) (as++caps.map AV.c) cargs) (hB:Gz σ f L bin) (hi:HN f L bin=true) (hlive:(bin.all fun p=>p.2.live&&Nat.blt p.1 9000)=true)
  (hK:(KK.all fun n=>(As bin n).isSome)=true) (hS0:∀b,¬E.S0 b) (hpl:res.Mj=true) (hwf:BC res bo=true) (hbo:(bo.all fun p=>Nat.blt p.1 9000)=true)
  (hLs:(L.all fun n=>(σ (.b n)).isSome)=true) (hgi:Afm (gW f KK d) bo=true) (hfresh:(bo.all fun p=>Su KK p.1||(σ (.b (1000*d+p.1))).isNone)=true) (hU:PY (gW f KK d) bo=U) (hres:res.ren (gW f KK d)=res') (hN:Nat.blt d N=true)
  (k:VR E ops dr rest (((σ.Cl ((L++bin.map fun p=>f p.1).map fun n=>(Key.b n,some (Item.k .dead)))).Cl U).set d res')
    ((gR.map (·.1)++(opK y++(Jf xs++((bin.map fun p=>Key.b (f p.1))++(L.map Key.b++bo.map fun p=>Key.b (gW f KK d p.1))))),(L++bin.map fun p=>f p.1).map Key.b++(U.map (·.1)++[.s d])) :: tr) K):
  VR E ops dr (⟨some d,.call ⟨.value y,xs.toArray,ats⟩,ty,pos,af,gd⟩ :: rest) σ tr K:=by
 subst hU;subst hres;have hupds:∀(U V:Ck) (s:St),s.Cl (U++V)=(s.Cl U).Cl V:=by
  intro U V
  induction U with
  |nil=>intro s;rfl
  |cons p U ih=>intro s;exact ih _
 have hkeys:∀l:List Nat,(l.map fun n=>(Key.b n,some (Item.k .dead))).map (·.1)=l.map Key.b:=fun l=>by simp[Function.comp_def]
 refine EP (R:=opR y (.fnc fid caps)++(TB xs as++((bin.map fun p=>(Key.b (f p.1),σ (.b (f p.1))))++(L.map (fun nm=>(Key.b nm,σ (.b nm)))++bo.map fun p=>(Key.b (gW f KK d p.1),σ (.b (gW f KK d p.1)))))))
  (U:=((L++bin.map fun p=>f p.1).map fun n=>(Key.b n,some (Item.k .dead)))++(PY (gW f KK d) bo++[(.s d,some (.v (res.ren (gW f KK d))))]))
  (kr:=opK y++(Jf xs++((bin.map fun p=>Key.b (f p.1))++(L.map Key.b++bo.map fun p=>Key.b (gW f KK d p.1))))) (ku:=(L++bin.map fun p=>f p.1).map Key.b++((PY (gW f KK d) bo).map (·.1)++[.s d])) hg (fun σ' a w ρ Im hs hR Kk Q hKk=>?_)
  (Ah (Bp hy) (Ah (FJ hxs) (Ah (fun p hp=>by obtain⟨q,_,rfl⟩:=Aj5.1 hp;rfl) (Ah (fun p hp=>by obtain⟨nm,_,rfl⟩:=Aj5.1 hp;rfl) (fun p hp=>by obtain⟨nm,_,rfl⟩:=Aj5.1 hp;rfl)))))
  (by simp[A4,Dx hxs,Akl,Function.comp_def]) (by rw[Akl,hkeys];simp) (by rw[hupds,hupds];exact k)
 obtain⟨us,hfv,hcaps⟩:=(B5 hs (Cb hy fun p hp=>hR p (AjA _ hp))).1;have h1:=Hm hxs fun p hp=>hR p (Ajz _ (AjA _ hp))
 have hBs:∀p∈bin,σ' (.b (f p.1))=σ (.b (f p.1)):=fun p hp=>hR (.b (f p.1),σ (.b (f p.1))) (Ajz _ (Ajz _ (AjA _ (Aj5.2 ⟨p,hp,rfl⟩))))
 have hL:∀nm∈L,σ' (.b nm)=σ (.b nm):=fun nm hnm=>hR (.b nm,σ (.b nm)) (Ajz _ (Ajz _ (Ajz _ (AjA _ (Aj5.2 ⟨nm,hnm,rfl⟩)))))
 have hfr:∀p∈bo,σ' (.b (gW f KK d p.1))=σ (.b (gW f KK d p.1)):=fun p hp=>hR (.b (gW f KK d p.1),σ (.b (gW f KK d p.1))) (Ajz _ (Ajz _ (Ajz _ (Ajz _ (Aj5.2 ⟨p,hp,rfl⟩)))))
 have hB':=G7 hL hB hBs;have hLn:∀n∈L,σ' (.b n)≠none:=fun n hn=>by
  rw[hL n hn];have:=AjL.1 hLs n hn;exact fun e=>by rw[e] at this;cases this
 have hlv:∀p∈bin,p.2.live=true/\p.1<9000:=fun p hp=>by
  have:=AjL.1 hlive p hp;simp only[AjE] at this;exact⟨this.1,by simpa using this.2⟩
 let S:Nat->Prop:=fun b=>∃p∈bin,(ρ (f p.1)).isNil=false/\b=(ρ (f p.1)).blk
 have hlook:∀p∈bin,∃x,As bin p.1=some x:=fun p hp=>Akk.1 (C7 hp)
 have hS1:∀b,Bk σ' ρ Im L b->¬S b:=fun b hb1 hS=>by
  obtain⟨p,hp,hnil,rfl⟩:=hS;obtain⟨z,hz,hw⟩:=Ej hB' p hp;have hzl:=hw.live (hlv p hp).1;rcases hb1 with hb1|⟨q,hq,bk,g1,g2,g3,g4⟩
  ·exact(hs.im _ hb1).2.2 _ z hz hzl hnil rfl
  ·obtain⟨x,hx⟩:=hlook p hp;exact hs.inj _ _ z bk hz g1 hzl g2 hnil g3 (MB hi hx q hq) g4.symm
 have hS3:∀b,S b->E.S0 b\/E.w0.heap.size<=b:=fun b hS=>by
  obtain⟨p,hp,hnil,rfl⟩:=hS;obtain⟨z,hz,hw⟩:=Ej hB' p hp;exact(hs.own _ z hz (hw.live (hlv p hp).1) hnil).2
 have hargs:=(JX hs h1).append (DH (f:=AV.c) hcaps fun x _ v h=>h);have hcargs:Bh (Ca (⟨w,Bk σ' ρ Im L,S⟩:Env P 0) (fun n=>ρ (f n)) w (Bk σ' ρ Im L)) cargs (xs.map a.eval++us):=by
  have hA':Bh (AX P σ' f L) (as++caps.map AV.c) cargs:=hA.imp fun _ _ _ h=>h.of_same hL
  exact J8 hA' hargs fun _ _ _ h1 h2=>h1.ok hs hS1 hS3 h2
 have hsb:∀n x,As bin n=some x->∃z,σ' (.b (f n))=some (.k z)/\BW σ' f L z x:=fun n x hx=>BJ hB' hx
 have hlvL:∀n x,As bin n=some x->x.live=true:=fun n x hx=>(hlv _ (AP hx)).1
 have hmem:F1 (⟨w,Bk σ' ρ Im L,S⟩:Env P 0) (AN [] (Ch KK (fun n=>ρ (f n))++bin)) w (fun n=>ρ (f n)) (Bk σ' ρ Im L):=by
  have hone:∀q b,AN [] (Ch KK (fun n=>ρ (f n))++bin) (.b q)=some (.k b)->(∃n,b=.pin n (ρ (f n)))\/As bin q=some b:=fun q b hq=>by
   simp only[AN,Ci] at hq;cases h0:As (Ch KK (fun n=>ρ (f n))) q with
   |some b'=>
    rw[h0] at hq;simp only[Option.or,AkM,AjW] at hq;injection hq with hq
    subst hq;obtain⟨n,_,_,rfl⟩:=Ih h0;exact .inl ⟨n,rfl⟩
   |none=>
    rw[h0] at hq;simp only[Option.or,Akh] at hq;obtain⟨x,hx,e⟩:=hq;injection e with e;subst e
    exact .inr hx
  have hl:∀q b,AN [] (Ch KK (fun n=>ρ (f n))++bin) (.b q)=some (.k b)->b.live=true->As bin q=some b:=fun q b hq hb=>by
   rcases hone q b hq with⟨n,rfl⟩|h
   ·cases hb
   ·exact h
  refine⟨fun q b hq=>?_,fun q b hq hl1 hn=>?_,fun n1 n2 b1 b2 q1 q2 l1 l2 i1 i2 hne=>?_,fun b hb1=>⟨.inl hb1,Ct hs b hb1,fun q bk hq hl1 hn e=>?_⟩,IL.refl _ _⟩
  ·rcases hone q b hq with⟨n,rfl⟩|h
   ·rfl
   ·obtain⟨z,hz,hw⟩:=hsb q b h;exact hw.ok hs (hs.bk _ z hz)
  ·have hx:=hl q b hq hl1;obtain⟨z,hz,hw⟩:=hsb q b hx;exact⟨(hs.own _ z hz (hw.live hl1) hn).1,.inl ⟨_,AP hx,hn,rfl⟩⟩
  ·have hx1:=hl _ _ q1 l1;have hx2:=hl _ _ q2 l2;obtain⟨z1,hz1,hw1⟩:=hsb _ _ hx1;obtain⟨z2,hz2,hw2⟩:=hsb _ _ hx2;exact hs.inj _ _ z1 z2 hz1 hz2 (hw1.live l1) (hw2.live l2) i1 i2 (Io hi hx1 hx2 hne)
  ·have hx:=hl _ _ hq hl1;exact hS1 b hb1 ⟨_,AP hx,hn,e.symm⟩
 obtain⟨hen,hcall⟩:=hF fun n=>ρ (f n)
 have hc:=hcall w (fun n=>ρ (f n)) (Bk σ' ρ Im L) S (xs.map a.eval++us) hcargs hmem;unfold Oper.wp;have hrun:(execOp a.eval ⟨some d,.call ⟨.value y,xs.toArray,ats⟩,ty,pos,af,gd⟩).run P w=.ok (.enter fid (xs.map a.eval++us).toArray) w:=by
  have he:a.eval y=.func (.func fid) #[] us.toArray:=hfv;simp only[execOp,resolve,Sem.run_bind,he,Deferred.ofValue,Sem.run_pure,Result.andThen_ok,invoke];have:(#[]++(xs.toArray.map a.eval)++us.toArray:Array Value)=(xs.map a.eval++us).toArray:=by simp
  rw[this];exact hen _ _
 rw[hrun,Oper.upon_enter];refine hc.mono fun e w' ⟨v,ρ',Im',he,hm,hresv,_⟩=>?_
 subst he;have hbo':∀n x,As bo n=some x->AN [] (Ch KK (fun n=>ρ (f n))++bo) (.b n)=some (.k x):=fun n x hx=>by
  have hn:n<9000:=by
   have:=AjL.1 hbo _ (AP hx);simpa using this
  simp only[AN,Ci];cases h0:As (Ch KK (fun n=>ρ (f n))) n with
  |some b'=>obtain⟨m,_,e,_⟩:=Ih h0;omega
  |none=>simp[hx]
 have hm':F1 (⟨w,Bk σ' ρ Im L,S⟩:Env P 0) (AN [] bo) w' ρ' Im':=by
  have hst:∀n x,AN [] bo (.b n)=some (.k x)->AN [] (Ch KK (fun n=>ρ (f n))++bo) (.b n)=some (.k x):=fun n x hx=>by
   simp only[AN,Akh] at hx;obtain⟨y,hy,e⟩:=hx;injection e with e;subst e
   exact hbo' n y hy
  exact⟨fun n b hb=>hm.bk n b (hst n b hb),fun n b hb=>hm.own n b (hst n b hb),fun n1 n2 b1 b2 h1 h2=>hm.inj n1 n2 b1 b2 (hst _ _ h1) (hst _ _ h2),fun b hb=>⟨(hm.im b hb).1,(hm.im b hb).2.1,fun n bk hk=>(hm.im b hb).2.2 n bk (hst _ _ hk)⟩,hm.Bo⟩
 have hpin:∀n,n∈KK->ρ' n=ρ (f n):=fun n hn=>by
  have hlk:∀l:List Nat,n∈l->As (Ch l fun n=>ρ (f n)) (9000+n)=some (.pin n (ρ (f n))):=by
   intro l
   induction l with
   |nil=>intro h;cases h
   |cons m l ih=>
    intro h;show(bif Nat.beq (9000+m) (9000+n) then _ else _)=_;by_cases e:m=n
    ·subst e;simp
    ·have:Nat.beq (9000+m) (9000+n)=false:=by
      cases hb:Nat.beq (9000+m) (9000+n) with
      |false=>rfl
      |true=>have:=Aki hb;omega
     rw[this];exact ih (by rcases AjO.1 h with h|h;exact absurd h.symm e;exact h)
  have:=hm.bk (9000+n) (.pin n (ρ (f n))) (by simp only[AN,Ci,hlk KK hn];rfl);exact this
 have hs1:=(hs.freeze hS0 L).AbA (bin.map fun p=>f p.1);rw[<-hupds,<-Akl] at hs1;have hdead:∀n,n∈KK->σ'.Cl ((L++bin.map fun p=>f p.1).map fun n=>(Key.b n,some (Item.k .dead))) (.b (f n))=some (.k .dead):=fun n hn=>by
  refine Ij _ _ _ ?_;have:=AjL.1 hK n hn;obtain⟨x,hx⟩:=Akk.1 this;exact Ajz _ (Aj5.2 ⟨_,AP hx,rfl⟩)
 obtain⟨ρ'',Im'',hs'',hr'',hm''⟩:=hs1.AcT (g:=gW f KK d) (S:=S) (fun n b hn hl hnil hS=>by
   obtain⟨p,hp,hpn,e⟩:=hS;by_cases hin:n∈L++bin.map fun p=>f p.1
   ·rw[Ij _ _ _ hin] at hn;injection hn with hn;injection hn with hn;subst hn
    cases hl
   ·rw[Gw _ _ _ hin] at hn;obtain⟨z,hz,hw⟩:=Ej hB' p hp;exact hs.inj n _ b z hn hz hl (hw.live (hlv p hp).1) hnil hpn (fun e=>hin (Ajz _ (Aj5.2 ⟨p,hp,e.symm⟩))) e) (fun b hb1 hS=>hS1 b hb1 hS) hS3 hm' hresv (.inl fun b hb=>hb) hpl hwf (TO hgi) (fun p hp=>by
   by_cases hk:Su KK p.1=true
   ·have hkm:p.1∈KK:=Ph.1 hk;have e:gW f KK d p.1=f p.1:=by simp[gW,hk]
    rw[e];exact .inr ⟨hdead _ hkm,hpin _ hkm⟩
   ·have hkm:Su KK p.1=false:=by simpa using hk
    have e:gW f KK d p.1=1000*d+p.1:=by simp[gW,hkm]
    have hn:σ' (.b (gW f KK d p.1))=none:=by
     rw[hfr p hp,e];have:=AjL.1 hfresh p hp;simpa [hkm] using this
    left
    by_cases hin:gW f KK d p.1∈L++bin.map fun p=>f p.1
    ·rcases List.mem_append.1 hin with hin|hin
     ·exact absurd hn (hLn _ hin)
     ·obtain⟨q,hq,e⟩:=Aj5.1 hin;obtain⟨z,hz,_⟩:=Ej hB' q hq;rw[<-e] at hn;rw[hz] at hn;cases hn
    ·rw[Gw _ _ _ hin];exact hn)
 refine hKk _ _ ⟨ρ'',Im'',?_⟩;rw[hupds,hupds];exact hs''.put (by simpa using hN) hr'' hm''
end
theorem QC {α:Type} {enc:α->List D} {l:List α} {g:Nat->Nat}:(rowOf enc l).map (fun cs=>cs.map (C.ren g))=rowOf enc l:=by
 simp only[rowOf,AkO];refine AkS fun a _=>?_
 simp only[Function.comp_def,AkO];exact AkS fun x _=>rfl
theorem Jr {P:Program} {σ:St} {rs:List ResultVar} {xs:List AV} {res:AV} {bout:List (Nat×Blk)} {e:Exit} (he:e=.normal\/e=.ret) (h:IJ P σ rs xs) (hx:res=Wn xs) (hb:hasB σ bout):Gk P rs res bout e σ:=by
 refine⟨he,xs,h,hx,?_⟩;have key:∀l:List (Nat×Blk),hasB σ l->∀p∈l,σ (.b p.1)=some (.k p.2):=by
  intro l
  induction l with
  |nil=>intro _ p hp;cases hp
  |cons q l ih=>
   intro h p hp;rcases AjO.1 hp with rfl|hp
   ·exact h.1
   ·exact ih h.2 p hp
 exact key bout hb
theorem Th {P:Program} {σ:St} {t u v nm:Nat} {T:TypeId} {ti:TyI} {cs cs':List C} {x x' y y':D} {e:Exit} (he:e=.normal\/e=.ret) [ht:AT P T ti] (hx:σ (.s t)=some (.v (.c (.ptr nm 0)))) (hb:σ (.b nm)=some (.k (.box cs'))) (hagg:ti.isAgg=true)
  (hl:(cs'.take ti.size).length=ti.size) (hu:σ (.s u)=some (.v (AD x'))) (hv:σ (.s v)=some (.v (AD y'))) (h:cs=cs'.take ti.size) (h2:x=x') (h3:y=y'):Gk P [.cell t T,.tmp u,.tmp v] (.tup [.agg cs,AD x,AD y]) [] e σ:=
 ⟨he,[.agg ((cs'.drop 0).take ti.size),AD x',AD y'],.agg hx hb hagg hl (.tmp rfl hu (.tmp rfl hv .nil)),by rw[h,h2,h3];rfl,fun p hp=>by cases hp⟩
theorem AL {P:Program} {σ:St} {t u v nm:Nat} {T:TypeId} {ti:TyI} {cs cs':List C} {x x' y y':D} {e:Exit} [ht:AT P T ti] (he:e=.normal\/e=.ret:=by first|exact Ae|exact Dy) (hx:σ (.s t)=some (.v (.c (.ptr nm 0))):=by exact rfl) (hb:σ (.b nm)=some (.k (.box cs')):=by exact rfl) (hagg:ti.isAgg=true:=by exact rfl) (hl:(cs'.take ti.size).length=ti.size:=by exact rfl) (hu:σ (.s u)=some (.v (AD x')):=by exact rfl) (hv:σ (.s v)=some (.v (AD y')):=by exact rfl) (h:cs=cs'.take ti.size:=by exact rfl) (h2:x=x':=by exact rfl) (h3:y=y':=by exact rfl):Gk P [.cell t T,.tmp u,.tmp v] (.tup [.agg cs,AD x,AD y]) [] e σ:=Th he hx hb hagg hl hu hv h h2 h3
theorem Nz {P:Program} {σ:St} {t u v nm nm2:Nat} {T T2:TypeId} {ti ti2:TyI} {cs cs' ds ds':List C} {y y':D} {e:Exit} (he:e=.normal\/e=.ret) [ht:AT P T ti] [ht2:AT P T2 ti2] (hx:σ (.s t)=some (.v (.c (.ptr nm 0)))) (hb:σ (.b nm)=some (.k (.box cs'))) (hagg:ti.isAgg=true)
  (hl:(cs'.take ti.size).length=ti.size) (hx2:σ (.s u)=some (.v (.c (.ptr nm2 0)))) (hb2:σ (.b nm2)=some (.k (.box ds'))) (hagg2:ti2.isAgg=true)
  (hl2:(ds'.take ti2.size).length=ti2.size) (hv:σ (.s v)=some (.v (AD y'))) (h:cs=cs'.take ti.size) (h2:ds=ds'.take ti2.size) (h3:y=y'):Gk P [.cell t T,.cell u T2,.tmp v] (.tup [.agg cs,.agg ds,AD y]) [] e σ:=
 ⟨he,[.agg ((cs'.drop 0).take ti.size),.agg ((ds'.drop 0).take ti2.size),AD y'],.agg hx hb hagg hl (.agg hx2 hb2 hagg2 hl2 (.tmp rfl hv .nil)),by rw[h,h2,h3];rfl,fun p hp=>by cases hp⟩
theorem AE {P:Program} {σ:St} {t u v nm nm2:Nat} {T T2:TypeId} {ti ti2:TyI} {cs cs' ds ds':List C} {y y':D} {e:Exit} [ht:AT P T ti] [ht2:AT P T2 ti2] (he:e=.normal\/e=.ret:=by first|exact Ae|exact Dy) (hx:σ (.s t)=some (.v (.c (.ptr nm 0))):=by exact rfl) (hb:σ (.b nm)=some (.k (.box cs')):=by exact rfl) (hagg:ti.isAgg=true:=by exact rfl) (hl:(cs'.take ti.size).length=ti.size:=by exact rfl) (hx2:σ (.s u)=some (.v (.c (.ptr nm2 0))):=by exact rfl) (hb2:σ (.b nm2)=some (.k (.box ds')):=by exact rfl) (hagg2:ti2.isAgg=true:=by exact rfl) (hl2:(ds'.take ti2.size).length=ti2.size:=by exact rfl) (hv:σ (.s v)=some (.v (AD y')):=by exact rfl) (h:cs=cs'.take ti.size:=by exact rfl) (h2:ds=ds'.take ti2.size:=by exact rfl) (h3:y=y':=by exact rfl):Gk P [.cell t T,.cell u T2,.tmp v] (.tup [.agg cs,.agg ds,AD y]) [] e σ:=Nz he hx hb hagg hl hx2 hb2 hagg2 hl2 hv h h2 h3
theorem BW.AfP {α:Type} {enc:α->List D} {σ:St} {f:Nat->Nat} {L:List Nat} {T sz:Nat} {xs:List (List C)} {l:List α} (n:Nat) (h:xs.take n=rowOf enc l):BW σ f L (.row T sz xs) (.row T sz (rowOf enc l)):=by
 refine .AaS n ?_;rw[h];exact PR Ai
class Jq {α:Type} (enc:α->List D):Prop where
 flat:∀x,(enc x).all D.flat=true
theorem Ta {α:Type} {enc:α->List D} [h:Jq enc] {l:List α} {T sz:Nat}:(Blk.row T sz (rowOf enc l)).flat=true:=Ki h.flat
instance:Jq (fun n:Int=>[D.int .i64 n]):=⟨fun _=>rfl⟩
theorem FnS.toW {P:Program} {g:FuncId} {as:List AV} {res:AV} {bo:List (Nat×Blk)} (h:FnS P g as [] res bo):FnW P g as [] [] res bo:=fun _=>h
def FZ {γ:Type}:List (List Int×γ)->List Int->Option γ
 |[],_=>none
 |p :: es,a=>if p.1=a then some p.2 else FZ es a
def Li {γ:Type}:List (List Int×γ)->List Int->γ->List (List Int×γ)
 |[],a,c=>[(a,c)]
 |p :: es,a,c=>if p.1=a then(a,c) :: es else p :: Li es a c
def Ok {γ:Type}:List (List Int×γ)->List Int->Option Nat
 |[],_=>none
 |p :: es,a=>if p.1=a then some 0 else(Ok es a).map (·+1)
class NN (P:Program) (t:TypeId) (n:outParam Nat):Prop where
 check:∀(w:World) (em:Bool) (a:List Int),a.length=n->(Instr.checkKey em 10000 t (kv a)).run P w=.ok () w
 find:∀(w:World) (a:List Int) (es:List MapEntry) (ks:List (List Int)),a.length=n->(∀k∈ks,k.length=n)->Bh (fun k (e:MapEntry)=>e.key=kv k) ks es->
  (Instr.findKey t (kv a) es).run P w=.ok ((Ok (ks.map fun k=>(k,())) a).bind fun i=>(es[i]?).map fun e=>(i,e.val)) w
theorem UJ (P:Program) (w:World) (a:List Int):(Instr.keyThatStays (kv a) (kv a)).run P w=.ok (kv a) w:=by
 have hb:∀(l:List Int),((l.zip l).all fun(x,y)=>Instr.sameBits 9999 (.int .i64 x) (.int .i64 y))=true:=fun l=>by
  induction l with
  |nil=>rfl
  |cons a l ih=>rw[List.zip_cons_cons,AkD,ih];simp[Instr.sameBits]
 have:Instr.sameBits 10000 (kv a) (kv a)=true:=by
  have h1:∀l:List Int,Instr.sameBits 10000 (.agg (l.map (Value.int .i64)).toArray) (.agg (l.map (Value.int .i64)).toArray)=true:=fun l=>by
   unfold Instr.sameBits;simp only[beq_self_eq_true,AkZ,List.zip_map,List.all_map];have:=hb l;simp only[AjL] at this ⊢;intro x hx;exact this x hx
  match a with
  |[]=>exact h1 []
  |[a]=>simp[kv,Instr.sameBits]
  |a :: b :: l=>exact h1 (a :: b :: l)
 unfold Instr.keyThatStays;rw[Akc this]
 rfl
theorem Zb {P:Program} {t:TypeId} (h:P.underlying t=some (.int .i64)):NN P t 1 where
 check w em a ha:=by
  match a,ha with
  |[a],_=>exact MapKept.run_checkKey h (k:=.int .i64 a) rfl em 9999
 find w a es ks ha hks hes:=by
  match a,ha with
  |[a],_=>
   have key:∀(es:List MapEntry) (ks:List (List Int)) (i:Nat),(∀k∈ks,k.length=1)->Bh (fun k (e:MapEntry)=>e.key=kv k) ks es->
     Instr.findNow (.int .i64) (.int .i64 a) es i=some ((Ok (ks.map fun k=>(k,())) [a]).bind fun j=>(es[j]?).map fun e=>(i+j,e.val)):=by
    intro es ks i hks hes
    induction hes generalizing i with
    |nil=>rfl
    |@cons k e ks es he _ ih=>
     match k,hks k (by simp) with
     |[b],_=>
      have he:e.key=.int .i64 b:=he;simp only[Instr.findNow,he,Instr.sameNow,if_true,Akq,Ok];by_cases hab:b=a
      ·subst hab;simp
      ·have h1:(a == b)=false:=by simpa using fun e=>hab e.symm
       have h2:¬([b]=[a]):=by simpa using hab
       rw[h1,Akb h2];simp only;rw[ih (i+1) (fun k hk=>hks k (by simp[hk]))];cases Ok (ks.map fun k=>(k,())) [a] with
       |none=>rfl
       |some j=>simp[Alf,Nat.add_comm 1]
   have:=key es ks 0 hks hes;simp only[Ak1] at this;exact MapKept.run_findKey h this
theorem A8.chg {P:Program} {N:Nat} {E:Env P N} {σ:St} {a:Act} {w w':World} {ρ:Nat->RI} {Im:Nat->Prop} (h:A8 E σ a w ρ Im) {nm:Nat} {b0 blk:Blk} (h0:σ (.b nm)=some (.k b0)) (hl0:b0.live=true)
  (hnil:(ρ nm).isNil=false) (os:w'.os=w.os) (tape:w'.tape=w.tape) (output:w'.output=w.output) (size:w'.heap.size=w.heap.size) (other:∀b,b≠(ρ nm).blk->w'.heap[b]?=w.heap[b]?)
  (hb:BQ ρ w' Im nm blk) (hm:∀n,blk.mentions n=true->σ (.b n)≠none):
  A8 E (σ.upd (.b nm) (some (.k blk))) a w' ρ Im:=by
 have hold:∀b,Im b->Im b/\w'.heap[b]?=w.heap[b]?:=fun b hb=>⟨hb,other b (fun e=>(h.im b hb).2.2 nm b0 h0 hl0 hnil e.symm)⟩
 have hother:∀n b,σ.upd (.b nm) (some (.k blk)) (.b n)=some (.k b)->n≠nm->σ (.b n)=some (.k b):=fun n b hb hn=>by
  rwa [St.At _ _ (by intro e;injection e with e;exact hn e.symm)] at hb
 have hown0:=h.own nm b0 h0 hl0 hnil;refine⟨fun t x hx=>?_,fun n b hb'=>?_,fun n b hb' hl hn=>?_,fun n1 n2 b1 b2 h1 h2 l1 l2 i1 i2 hne=>?_,fun b hb'=>⟨(h.im b hb').1,?_,fun n bk hk hl hn=>?_⟩,fun k it hk n hn=>?_,h.defers,h.size,?_⟩
 ·rw[St.At _ _ (by intro e;cases e)] at hx;exact Ca.Bo hold (fun _ _=>rfl) (h.fr t x hx)
 ·by_cases hn:n=nm
  ·subst hn;rw[St.AM] at hb';injection hb' with hb';injection hb' with hb';subst hb'
   exact hb
  ·have hb0:=hother n b hb' hn;refine BQ.Bo hold rfl (fun hnil' hlive=>?_) (fun _ _=>rfl) (h.bk n b hb0);refine other _ (fun e=>?_);exact h.inj n nm b b0 hb0 h0 hlive hl0 hnil' hnil hn e
 ·by_cases he:n=nm
  ·subst he;exact⟨by rw[size];exact hown0.1,hown0.2⟩
  ·have hb0:=hother n b hb' he;obtain⟨h1,h2⟩:=h.own n b hb0 hl hn;exact⟨by rw[size];exact h1,h2⟩
 ·have get:∀n b,σ.upd (.b nm) (some (.k blk)) (.b n)=some (.k b)->b.live=true->∃b',σ (.b n)=some (.k b')/\b'.live=true:=fun n b hb hl=>by
   by_cases he:n=nm
   ·subst he;exact⟨b0,h0,hl0⟩
   ·exact⟨b,hother n b hb he,hl⟩
  obtain⟨c1,hc1,hc1'⟩:=get n1 b1 h1 l1;obtain⟨c2,hc2,hc2'⟩:=get n2 b2 h2 l2;exact h.inj n1 n2 c1 c2 hc1 hc2 hc1' hc2' i1 i2 hne
 ·rw[size];exact(h.im b hb').2.1
 ·by_cases he:n=nm
  ·subst he;exact(h.im b hb').2.2 n b0 h0 hl0 hn
  ·exact(h.im b hb').2.2 n bk (hother n bk hk he) hl hn
 ·by_cases he:n=nm
  ·subst he;rw[St.AM];simp
  ·rw[St.At _ _ (by intro e;injection e with e;exact he e.symm)];by_cases hkn:(Key.b nm)=k
   ·subst hkn;rw[St.AM] at hk;injection hk with hk;subst hk
    exact hm n hn
   ·rw[St.At _ _ hkn] at hk;exact h.wf k it hk n hn
 ·refine h.Bo.step os tape output (by rw[size];exact Akd _) (fun b hb hS=>other b (fun e=>?_));rcases hown0.2 with h1|h1
  ·rw[<-e] at h1;exact hS h1
  ·omega
theorem TQ {γ:Type}:∀{es:List (List Int×γ)} {a:List Int} {i:Nat},Ok es a=some i->∃p,es[i]?=some p/\p.1=a/\FZ es a=some p.2
 |p :: es,a,i,h=>by
  simp only[Ok] at h;by_cases e:p.1=a
  ·rw[Akc e] at h;injection h with h;subst h
   exact⟨p,rfl,e,by simp[FZ,e]⟩
  ·rw[Akb e] at h;obtain⟨j,hj,rfl⟩:=Akh.1 h;obtain⟨q,h1,h2,h3⟩:=TQ hj;exact⟨q,by simpa using h1,h2,by simp[FZ,e,h3]⟩
theorem JQ {γ:Type}:∀{es:List (List Int×γ)} {a:List Int},Ok es a=none->FZ es a=none
 |[],_,_=>rfl
 |p :: es,a,h=>by
  simp only[Ok] at h;by_cases e:p.1=a
  ·rw[Akc e] at h;cases h
  ·rw[Akb e] at h;have:=JQ (es:=es) (a:=a) (by simpa using h);simp[FZ,e,this]
theorem Rn {γ:Type}:∀(es:List (List Int×γ)) (a:List Int),Ok ((es.map (·.1)).map fun k=>(k,())) a=Ok es a
 |[],_=>rfl
 |p :: es,a=>by
  simp only[Akq,Ok];rw[Rn es a]
theorem Mg {γ:Type}:∀{es:List (List Int×γ)} {a:List Int} {c:γ},Ok es a=none->Li es a c=es++[(a,c)]
 |[],_,_,_=>rfl
 |p :: es,a,c,h=>by
  simp only[Ok] at h;by_cases e:p.1=a
  ·rw[Akc e] at h;cases h
  ·rw[Akb e] at h;have:=Mg (es:=es) (a:=a) (c:=c) (by simpa using h);simp[Li,e,this]
theorem Mf {γ:Type}:∀{es:List (List Int×γ)} {a:List Int} {c:γ} {i:Nat},Ok es a=some i->Li es a c=es.set i (a,c)
 |p :: es,a,c,i,h=>by
  simp only[Ok] at h;by_cases e:p.1=a
  ·rw[Akc e] at h;injection h with h;subst h
   simp[Li,e]
  ·rw[Akb e] at h;obtain⟨j,hj,rfl⟩:=Akh.1 h;have:=Mf (c:=c) hj;simp[Li,e,this]
theorem PO {α β:Type} {R:α->β->Prop} {x:α} {y:β} (h:R x y):∀{l:List α} {m:List β} {j:Nat},Bh R l m->Bh R (l.set j x) (m.set j y)
 |_,_,_,.nil=>.nil
 |_,_,0,.cons _ t=>.cons h t
 |_,_,_+1,.cons h0 t=>.cons h0 (PO h t)
theorem Pa {γ:Type} {p:List Int×γ} {c:γ}:∀{es:List (List Int×γ)} {a:List Int},p∈Li es a c->p∈es\/p=(a,c)
 |[],a,h=>by
  simp only[Li,AjI] at h;exact .inr h
 |q :: es,a,h=>by
  simp only[Li] at h
  split at h
  ·rcases AjO.1 h with rfl|h
   ·exact .inr rfl
   ·exact .inl (List.mem_cons_of_mem _ h)
  ·rcases AjO.1 h with rfl|h
   ·exact .inl List.mem_cons_self
   ·exact(Pa h).imp (List.mem_cons_of_mem _) id
def AgG:AV->Option (List Int)
 |.c (.d (.int .i64 a))=>some [a]
 |.agg [.d (.int .i64 a),.d (.int .i64 b)]=>some [a,b]
 |_=>none
theorem TL {P:Program} {N:Nat} {E:Env P N} {ρ:Nat->RI} {w:World} {Im:Nat->Prop} {x:AV} {v:Value} {a:List Int} (h:AgG x=some a) (hr:Ca E ρ w Im x v):v=kv a:=by
 unfold AgG at h
 split at h
 ·injection h with h;subst h;exact hr
 ·injection h with h;subst h
  obtain⟨us,rfl,ha⟩:=hr;cases ha with
  |cons h1 ha=>
   cases ha with
   |cons h2 ha=>
    cases ha;have h1:=show _=_ from h1
    have h2:=show _=_ from h2
    subst h1;subst h2
    rfl
 ·cases h
section
variable {d:Nat} {t kt et ty:TypeId} {pos:String} {af:Array Edge} {gd:Option (Nat×Bool)} {gR:Ck} {x y z:Operand} {ti ei:TyI} {nm n:Nat} {es:List (List Int×C)} {vk vv:AV} {a:List Int}
theorem Gl (hg:GOK N ops σ gd gR) (hfresh:σ (.b d)=none) (hN:Nat.blt d N=true)
  (k:VR E ops dr rest ((σ.upd (.b d) (some (.k (.map [])))).set d (.c (.mp d))) ((gR.map (·.1)++[.b d],[.b d,.s d]) :: tr) K):VR E ops dr (⟨some d,.makeMap t none,ty,pos,af,gd⟩ :: rest) σ tr K:=by
 refine EP (R:=[(.b d,none)]) (U:=[(.b d,some (.k (.map []))),(.s d,some (.v (.c (.mp d))))]) hg (fun σ act w ρ Im hs hR K Q hK=>?_) (by intro p hp;rw[AjI] at hp;subst hp;exact hfresh) rfl rfl k;have hf:σ (.b d)=none:=hR _ (AjI.2 rfl);have hnew:E2 ρ d ⟨w.heap.size,0,false⟩ d=⟨w.heap.size,0,false⟩:=by simp[E2]
 have h1:A8 E (σ.upd (.b d) (some (.k (.map [])))) act (w.alloc (.map #[] 0)) (E2 ρ d ⟨w.heap.size,0,false⟩) Im:=by
  refine hs.QZ hf _ 0 ⟨by rw[hnew],#[],0,by rw[hnew];exact heap_alloc_new w _,.nil⟩ (fun n hn=>by cases hn)
 unfold Oper.wp;have hrun:(execOp act.eval ⟨some d,.makeMap t none,ty,pos,af,gd⟩).run P w=.ok (.value (.map (some w.heap.size))) (w.alloc (.map #[] 0)):=by
  simp[execOp,run_makeMap]
 rw[hrun];refine hK _ _ ⟨_,_,h1.put (by simpa using hN) ?_ ?_⟩
 ·show _=_;rw[hnew]
 ·intro nm hn;have:d=nm:=by simpa [AV.mentions,AV.A3,C.mentions] using hn
  subst this;rw[St.AM];simp
theorem Pj {w:World} {ρ:Nat->RI} {Im:Nat->Prop} [hk:NN P kt n] {arr:Array MapEntry} (ha:a.length=n) (hes:∀p∈es,p.1.length=n)
  (h2:Bh (fun(p:List Int×C) (e:MapEntry)=>e.key=kv p.1/\Cf ρ w Im p.2 e.val) es arr.toList):
  (Ok es a=none/\(Instr.findKey kt (kv a) arr.toList).run P w=.ok none w) \/
  ∃i e c,Ok es a=some i/\arr[i]?=some e/\e.key=kv a/\FZ es a=some c/\Cf ρ w Im c e.val/\(Instr.findKey kt (kv a) arr.toList).run P w=.ok (some (i,e.val)) w:=by
 have hall:Bh (fun k (e:MapEntry)=>e.key=kv k) (es.map (·.1)) arr.toList:=DH h2 fun p _ e h=>h.1
 have hf:=hk.find w a arr.toList (es.map (·.1)) ha (fun k hk=>by obtain⟨p,hp,rfl⟩:=Aj5.1 hk;exact hes p hp) hall;rw[Rn] at hf;cases hi:Ok es a with
 |none=>rw[hi] at hf;exact .inl ⟨rfl,hf⟩
 |some i=>
  obtain⟨p,hp,hpa,hl⟩:=TQ hi;obtain⟨e,he,h3,h4⟩:=h2.get hp;rw[hi] at hf;simp only[Option.bind_some,he,AkM] at hf;exact .inr ⟨i,e,p.2,rfl,by simpa using he,by rw[h3,hpa],hl,h4,hf⟩
theorem Qb {c0:C} (ok:Bool) [ht:AT P t ti] [he:AT P et ei] [hk:NN P kt n] (hg:GOK N ops σ gd gR) (hx:ev σ x=some (.c (.mp nm))) (hb:σ (.b nm)=some (.k (.map es))) (hy:ev σ y=some vk) (ha:AgG vk=some a) (htk:ti.k=.map kt et)
  (hl:a.length=n) (hes:∀p∈es,p.1.length=n) (hz:KR ei.zero=some c0) (hN:Nat.blt d N=true)
  (k:VR E ops dr rest (σ.set d (if ok then .tup [.c ((FZ es a).getD c0),AB (FZ es a).isSome] else .c ((FZ es a).getD c0))) ((gR.map (·.1)++(opK x++(opK y++[.b nm])),[.s d]) :: tr) K):
  VR E ops dr (⟨some d,.lookup t x y ok,ty,pos,af,gd⟩ :: rest) σ tr K:=by
 refine D2 (R:=opR x (.c (.mp nm))++(opR y vk++[(.b nm,some (.k (.map es)))])) hg rfl hN (fun σ' act w ρ Im hs hR=>?_)
  (Ah (Bp hx) (Ah (Bp hy) (by intro p hp;rw[AjI] at hp;subst hp;exact hb))) (by rw[Akl,Akl,A4,A4];rfl) k
 have hx':=Cb hx fun p hp=>hR p (AjA _ hp)
 have hy':=Cb hy fun p hp=>hR p (Ajz _ (AjA _ hp))
 have hb':σ' (.b nm)=some (.k (.map es)):=hR (.b nm,_) (by simp);have e1:act.eval x=.map (some (ρ nm).blk):=(B5 hs hx').1;have e2:act.eval y=kv a:=TL ha (B5 hs hy').1;obtain⟨hnil,arr,clock,hh,h2⟩:=hs.bk nm _ hb';have hrun0:=fun em=>hk.check w em a hl
 obtain⟨hz1,hz2⟩:=M3 (ρ:=ρ) (w:=w) (Im:=Im) hz;have hmen:∀q,(.c ((FZ es a).getD c0):AV).A3 q=true->σ' (.b q)≠none:=fun q hq=>by
  have hq:((FZ es a).getD c0).mentions q=true:=hq;cases hlk:FZ es a with
  |none=>rw[hlk] at hq;rw[Option.getD_none,hz2] at hq;cases hq
  |some c=>
   rw[hlk,AkH] at hq;cases hi:Ok es a with
   |none=>rw[JQ hi] at hlk;cases hlk
   |some i=>
    obtain⟨p,hp,_,hp2⟩:=TQ hi;rw[hlk] at hp2;injection hp2 with hp2
    exact hs.wf _ _ hb' q (by simp only[Item.mentions,Blk.mentions,AjM];exact⟨p,AkP hp,by rw[<-hp2];exact hq⟩)
 have fin:∃v,(Instr.lookup t (.map (some (ρ nm).blk)) (kv a) ok).run P w=.ok (if ok then .tuple #[v,.bool (FZ es a).isSome] else v) w/\Cf ρ w Im ((FZ es a).getD c0) v:=by
  rcases Pj (P:=P) (a:=a) (kt:=kt) hl hes h2 with⟨h3,h4⟩|⟨i,e,c,h3,h4,_,h6,h7,h8⟩
  ·refine⟨ei.zero,?_,by rw[JQ h3];exact hz1⟩;simp[Instr.lookup,run_underlying (ht.map htk),MapKept.run_getObj_map hh,hrun0,h4,he.Lc,Result.andThen,JQ h3]
  ·refine⟨e.val,?_,by rw[h6];exact h7⟩;simp[Instr.lookup,run_underlying (ht.map htk),MapKept.run_getObj_map hh,hrun0,h8,Result.andThen,h6]
 obtain⟨v,hv1,hv2⟩:=fin;refine⟨if ok then .tuple #[v,.bool (FZ es a).isSome] else v,?_,?_,?_⟩
 ·simp only[execOp,e1,e2];rw[Sem.run_bind,hv1]
  rfl
 ·cases ok with
  |false=>exact hv2
  |true=>exact⟨[v,_],rfl,.cons hv2 (.cons rfl .nil)⟩
 ·intro q hq;cases ok with
  |false=>exact hmen q hq
  |true=>
   have hq:((.c ((FZ es a).getD c0):AV).A3 q||(false||false))=true:=hq;rw[AkK,AkK] at hq;exact hmen q hq
theorem P9 {c:C} [ht:AT P t ti] [hk:NN P kt n] (hg:GOK N ops σ gd gR) (hx:ev σ x=some (.c (.mp nm))) (hb:σ (.b nm)=some (.k (.map es))) (hy:ev σ y=some vk) (ha:AgG vk=some a) (htk:ti.k=.map kt et)
  (hl:a.length=n) (hes:∀p∈es,p.1.length=n) (hz:ev σ z=some (.c c))
  (k:VR E ops dr rest (σ.upd (.b nm) (some (.k (.map (Li es a c))))) ((gR.map (·.1)++(opK x++(opK y++(opK z++[.b nm]))),[.b nm]) :: tr) K):
  VR E ops dr (⟨none,.mapUpdate t x y z,ty,pos,af,gd⟩ :: rest) σ tr K:=by
 refine EP (R:=opR x (.c (.mp nm))++(opR y vk++(opR z (.c c)++[(.b nm,some (.k (.map es)))]))) (U:=[(.b nm,some (.k (.map (Li es a c))))]) hg (fun σ' act w ρ Im hs hR Kk Q hK=>?_)
  (Ah (Bp hx) (Ah (Bp hy) (Ah (Bp hz) (by intro p hp;rw[AjI] at hp;subst hp;exact hb)))) (by simp[Akl,A4]) rfl k
 have hx':=Cb hx fun p hp=>hR p (AjA _ hp)
 have hy':=Cb hy fun p hp=>hR p (Ajz _ (AjA _ hp))
 have hz':=Cb hz fun p hp=>hR p (Ajz _ (Ajz _ (AjA _ hp)))
 have hb':σ' (.b nm)=some (.k (.map es)):=hR (.b nm,_) (by simp);have e1:act.eval x=.map (some (ρ nm).blk):=(B5 hs hx').1;have e2:act.eval y=kv a:=TL ha (B5 hs hy').1;obtain⟨e3,hmc⟩:=B5 hs hz';have e3:Cf ρ w Im c (act.eval z):=e3;obtain⟨hnil,arr,clock,hh,h2⟩:=hs.bk nm _ hb';have hck:=hk.check w false a hl;have hmen:∀q,(Blk.map (Li es a c)).mentions q=true->σ' (.b q)≠none:=fun q hq=>by
  simp only[Blk.mentions,AjM] at hq;obtain⟨p,hp,hm⟩:=hq;rcases Pa hp with hp|rfl
  ·exact hs.wf _ _ hb' q (by simp only[Item.mentions,Blk.mentions,AjM];exact⟨p,hp,hm⟩)
  ·exact hmc q hm
 have fin:∃arr' clock',(Instr.mapUpdate t (.map (some (ρ nm).blk)) (kv a) (act.eval z)).run P w=.ok () {w with heap:=w.heap.setIfInBounds (ρ nm).blk (.map arr' clock')} /\
   Bh (fun(p:List Int×C) (e:MapEntry)=>e.key=kv p.1/\Cf ρ w Im p.2 e.val) (Li es a c) arr'.toList:=by
  rcases Pj (P:=P) (a:=a) (kt:=kt) hl hes h2 with⟨h3,h4⟩|⟨i,e,c',h3,h4,h5,h6,h7,h8⟩
  ·refine⟨arr.push ⟨kv a,act.eval z,clock⟩,clock+1,?_,?_⟩
   ·simp[Instr.mapUpdate,run_underlying (ht.map htk),MapKept.run_getObj_map hh,hck,h4,MapKept.run_setObj_map _ hh,Result.andThen]
   ·rw[Mg h3,Array.toList_push];exact h2.append (.cons ⟨rfl,e3⟩ .nil)
  ·refine⟨arr.modify i (fun e'=>{e' with key:=kv a,val:=act.eval z}),clock,?_,?_⟩
   ·simp[Instr.mapUpdate,run_underlying (ht.map htk),MapKept.run_getObj_map hh,hck,h8,h4,h5,UJ,MapKept.run_setObj_map _ hh,Result.andThen]
   ·rw[Mf h3,Array.toList_modify,ChangeMaps.modify_eq_set _ _ _ _ (show arr.toList[i]?=some e by simpa using h4)];exact PO ⟨rfl,e3⟩ h2
 obtain⟨arr',clock',hrun,h2'⟩:=fin;obtain⟨s1,s2⟩:=MapKept.heap_set (o':=.map arr' clock') hh;unfold Oper.wp;have hrun':(execOp act.eval ⟨none,.mapUpdate t x y z,ty,pos,af,gd⟩).run P w=.ok .skip {w with heap:=w.heap.setIfInBounds (ρ nm).blk (.map arr' clock')}:=by
  simp only[execOp,e1,e2];rw[Sem.run_bind,hrun]
  rfl
 rw[hrun'];refine hK _ _ ⟨ρ,Im,hs.chg (w':={w with heap:=w.heap.setIfInBounds (ρ nm).blk (.map arr' clock')}) hb' rfl hnil rfl rfl rfl (by simp) (fun b hb=>s2 b hb) ⟨hnil,arr',clock',s1,h2'.imp fun p _ e h=>⟨h.1,?_⟩⟩ hmen⟩;exact Cf.Bo (fun b hb=>⟨hb,s2 b (fun e=>(hs.im b hb).2.2 nm _ hb' rfl hnil e.symm)⟩) (fun _ _=>rfl) h.2
end
class AhE {κ:Type} (kf:κ->List Int) (n:outParam Nat):Prop where
 inj:∀a b,kf a=kf b->a=b
 len:∀a,(kf a).length=n
def k1 (a:Int):List Int:=[a]
def k2 (p:Int×Int):List Int:=[p.1,p.2]
instance:AhE k1 1:=⟨fun a b h=>by simpa [k1] using h,fun _=>rfl⟩
instance:AhE k2 2:=⟨fun a b h=>by
 simp only[k2,Ak6,and_true] at h;exact Prod.ext h.1 h.2,fun _=>rfl⟩
def cfB (b:Bool):C:=.d (.bool b)
def cfI (n:Int):C:=.d (.int .i64 n)
def mpO {κ ν:Type} (kf:κ->List Int) (cf:ν->C) (l:List (κ×ν)):List (List Int×C):=l.map fun p=>(kf p.1,cf p.2)
theorem YU {κ ν:Type} {kf:κ->List Int} {cf:ν->C} {n:Nat} [hk:AhE kf n] (l:List (κ×ν)):∀p∈mpO kf cf l,p.1.length=n:=fun p hp=>by
 obtain⟨q,_,rfl⟩:=Aj5.1 hp;exact hk.len _
section
variable {κ ν:Type} [DecidableEq κ]
def asc:List (κ×ν)->κ->Option ν
 |[],_=>none
 |p :: l,a=>if p.1=a then some p.2 else asc l a
def Abl:List (κ×ν)->κ->ν->List (κ×ν)
 |[],a,c=>[(a,c)]
 |p :: l,a,c=>if p.1=a then(a,c) :: l else p :: Abl l a c
variable {kf:κ->List Int} {cf:ν->C} {n:Nat} [hk:AhE kf n]
include hk
theorem Rc (a:κ):∀l:List (κ×ν),FZ (mpO kf cf l) (kf a)=(asc l a).map cf
 |[]=>rfl
 |p :: l=>by
  show(if kf p.1=kf a then some (cf p.2) else FZ (mpO kf cf l) (kf a))=_;by_cases e:p.1=a
  ·simp[asc,e]
  ·have:¬kf p.1=kf a:=fun h=>e (hk.inj _ _ h)
   rw[Akb this,Rc a l];simp[asc,e]
theorem U1 (a:κ) (v:ν):∀l:List (κ×ν),Li (mpO kf cf l) (kf a) (cf v)=mpO kf cf (Abl l a v)
 |[]=>rfl
 |p :: l=>by
  show(if kf p.1=kf a then(kf a,cf v) :: mpO kf cf l else(kf p.1,cf p.2) :: Li (mpO kf cf l) (kf a) (cf v))=_;by_cases e:p.1=a
  ·simp[Abl,e,mpO]
  ·have:¬kf p.1=kf a:=fun h=>e (hk.inj _ _ h)
   rw[Akb this,U1 a v l];simp[Abl,e,mpO]
end
section
variable {d:Nat} {t kt et ty:TypeId} {pos:String} {af:Array Edge} {gd:Option (Nat×Bool)} {gR:Ck} {x y z:Operand} {ti ei:TyI} {nm n:Nat} {a b c:Int}
theorem SH [ht:AT P t ti] [he:AT P et ei] (hg:GOK N ops σ gd gR) (htk:ti.k=.map kt et) (hek:ei.k=.bool) (hfresh:σ (.b d)=none) (hN:Nat.blt d N=true)
  (k:VR E ops dr rest ((σ.upd (.b d) (some (.k (.map (mpO k1 cfB []))))).set d (.c (.mp d))) ((gR.map (·.1)++[.b d],[.b d,.s d]) :: tr) K):VR E ops dr (⟨some d,.makeMap t none,ty,pos,af,gd⟩ :: rest) σ tr K:=
 Gl hg hfresh hN k
theorem VT {l:List (Int×Bool)} [ht:AT P t ti] [he:AT P et ei] [hk:NN P kt 1] (hg:GOK N ops σ gd gR) (hx:ev σ x=some (.c (.mp nm))) (hb:σ (.b nm)=some (.k (.map (mpO k1 cfB l)))) (hy:ev σ y=some (AD (.int .i64 a))) (htk:ti.k=.map kt et)
  (hz:KR ei.zero=some (.d (.bool false))) (hN:Nat.blt d N=true)
  (k:VR E ops dr rest (σ.set d (AB ((asc l a).getD false))) ((gR.map (·.1)++(opK x++(opK y++[.b nm])),[.s d]) :: tr) K):
  VR E ops dr (⟨some d,.lookup t x y false,ty,pos,af,gd⟩ :: rest) σ tr K:=by
 refine Qb false hg hx hb hy rfl htk rfl (YU l) hz hN ?_;have h:=Rc (cf:=cfB) (kf:=k1) a l;rw[show[a]=k1 a from rfl,h];generalize asc l a=o at k ⊢;cases o<;>exact k
theorem OH {v:Bool} {l:List (Int×Bool)} [ht:AT P t ti] [hk:NN P kt 1] (hg:GOK N ops σ gd gR) (hx:ev σ x=some (.c (.mp nm))) (hb:σ (.b nm)=some (.k (.map (mpO k1 cfB l)))) (hy:ev σ y=some (AD (.int .i64 a))) (htk:ti.k=.map kt et) (hz:ev σ z=some (AB v))
  (k:VR E ops dr rest (σ.upd (.b nm) (some (.k (.map (mpO k1 cfB (Abl l a v)))))) ((gR.map (·.1)++(opK x++(opK y++(opK z++[.b nm]))),[.b nm]) :: tr) K):
  VR E ops dr (⟨none,.mapUpdate t x y z,ty,pos,af,gd⟩ :: rest) σ tr K:=by
 refine P9 hg hx hb hy rfl htk rfl (YU l) hz ?_;rw[show[a]=k1 a from rfl,show(C.d (.bool v))=cfB v from rfl,U1];exact k
end
theorem BW.Abw {κ ν:Type} {kf:κ->List Int} {cf:ν->C} {l l':List (κ×ν)} {σ:St} {f:Nat->Nat} {L:List Nat} (hd:∀v,(cf v).isD=true) (h:l=l'):BW σ f L (.map (mpO kf cf l)) (.map (mpO kf cf l')):=by
 subst h;refine .map ?_;unfold mpO
 induction l with
 |nil=>exact .nil
 |cons p l ih=>
  refine .cons ⟨rfl,?_⟩ ih;have:=hd p.2;show CW σ f L (cf p.2) (cf p.2);generalize cf p.2=c at this;cases c with
  |d x=>exact .d
  |_=>cases this
theorem Q1 {κ ν:Type} {kf:κ->List Int} {cf:ν->C} {l:List (κ×ν)} (hd:∀v,(cf v).names=[]):(Blk.map (mpO kf cf l)).names=[]:=by
 simp only[Blk.names,mpO,List.flatMap_map,hd]
 induction l with
 |nil=>rfl
 |cons _ _ ih=>exact ih
theorem YT {κ ν:Type} {kf:κ->List Int} {cf:ν->C} {l:List (κ×ν)} {g:Nat->Nat} (hd:∀v,(cf v).ren g=cf v):(mpO kf cf l).map (fun p=>(p.1,p.2.ren g))=mpO kf cf l:=by
 simp only[mpO,AkO,Function.comp_def,hd]
theorem Vc {κ:Type} {kf:κ->List Int} {l:List (κ×Bool)} {g:Nat->Nat}:(mpO kf cfB l).map (fun p=>(p.1,p.2.ren g))=mpO kf cfB l:=YT fun _=>rfl
theorem Vb {κ:Type} {kf:κ->List Int} {l:List (κ×Int)} {g:Nat->Nat}:(mpO kf cfI l).map (fun p=>(p.1,p.2.ren g))=mpO kf cfI l:=YT fun _=>rfl
theorem AA {κ:Type} {kf:κ->List Int} {l:List (κ×Bool)}:(Blk.map (mpO kf cfB l)).names=[]:=Q1 fun _=>rfl
theorem Az {κ:Type} {kf:κ->List Int} {l:List (κ×Int)}:(Blk.map (mpO kf cfI l)).names=[]:=Q1 fun _=>rfl
theorem VE {κ ν:Type} [DecidableEq κ]:∀{l:List (κ×ν)} {a:κ},asc l a=none↔∀p∈l,p.1≠a
 |[],a=>by simp[asc]
 |p :: l,a=>by
  simp only[asc]
  split
  ·rename_i e;simp[e]
  ·rename_i e;rw[VE (l:=l)];simp[e]
theorem U2 {κ ν:Type} [DecidableEq κ]:∀{l:List (κ×ν)} {a:κ} {v:ν},asc l a=none->Abl l a v=l++[(a,v)]
 |[],_,_,_=>rfl
 |p :: l,a,v,h=>by
  simp only[asc] at h
  split at h
  ·cases h
  ·rename_i e;simp only[Abl,Akb e,U2 h,Akt]
def Acz {α:Type} (f:α->Int) (l:List α):List (Int×Bool):=l.map fun x=>(f x,true)
theorem UP {α:Type} {f:α->Int} {l:List α} {a:Int}:(asc (Acz f l) a).getD false=l.any fun x=>decide (f x=a):=by
 induction l with
 |nil=>rfl
 |cons x l ih=>
  simp only[Acz,Akq,asc,List.any_cons];by_cases e:f x=a
  ·simp[e]
  ·simp only[e,if_false,decide_false,Bool.false_or];exact ih
theorem Aa2 {α:Type} {f:α->Int} {l:List α} {x:α} (h:(l.any fun y=>decide (f y=f x))=false):Abl (Acz f l) (f x) true=Acz f (l++[x]):=by
 rw[U2]
 ·simp[Acz]
 ·rw[VE];intro p hp;obtain⟨y,hy,rfl⟩:=Aj5.1 hp;have:=AjN.1 h y hy;simpa using this
section
variable {P:Program} {N:Nat} {E:Env P N} {σ:St} {Q:Exit->St->Prop}
theorem DJ {c:Code} {nm j n sz:Nat} {f:Nat->Nat->D} {cs:List C} (hx:σ (.b nm)=some (.k (.box cs))) (hj:cs[j]?=some (.d (.rd n sz f))) (h:n<=9223372036854775807->VC E c Q σ):VC E c Q σ:=by
 intro a w hs;obtain⟨ρ,Im,hs'⟩:=hs;obtain⟨hnil,us,T,hh,ha⟩:=hs'.bk nm _ hx;obtain⟨u,hu,hr⟩:=ha.get hj;have hr:DT w Im (.rd n sz f) u:=hr;exact h (by have:=hr.1;simpa [maxLen] using this) a w ⟨ρ,Im,hs'⟩
end
abbrev XE (b:Bool):List D:=[.bool b]
abbrev Ajs (n:Int):List D:=[.int .i64 n]
abbrev EC (n:Int):List D:=[.int .u8 n]
abbrev bsC (V:List Bool):List C:=V.map fun b=>C.d (.bool b)
instance:Jq XE:=⟨fun _=>rfl⟩
instance:Jq EC:=⟨fun _=>rfl⟩
theorem Zm {ρ:Nat->RI} {w:World} {Im:Nat->Prop}:∀(V:List Int),Bh (Cf ρ w Im) (V.map fun n=>C.d (.int .u8 n)) (V.map (Value.int .u8))
 |[]=>.nil
 |b :: V=>.cons rfl (Zm V)
section
variable {d:Nat} {t yt ty te s:TypeId} {pos:String} {af:Array Edge} {gd:Option (Nat×Bool)} {gR:Ck} {x y z:Operand} {ti ei si:TyI}
def bAt (s:ByteArray) (i:Nat):Int:=((s.data.toList.getD i 0).toNat:Int)
theorem Da {s:ByteArray} {kd:IntKind} {i:Int} {m:Nat} [ht:AT P t ti] (hg:GOK N ops σ gd gR) (hx:ev σ x=some (AD (.str s))) (hy:ev σ y=some (AD (.int kd i)))
  (hk:ti.k=.string) (h1:0<=i) (h2:i<s.size) (hm:m=i.toNat) (hN:Nat.blt d N=true)
  (k:VR E ops dr rest (σ.set d (AD (.int .u8 (bAt s m)))) ((gR.map (·.1)++(opK x++opK y),[.s d]) :: tr) K):VR E ops dr (⟨some d,.index t x y,ty,pos,af,gd⟩ :: rest) σ tr K:=
 Fe (v:=AD (.int .u8 (bAt s m))) hg rfl hx hy hN (fun _ a w ρ Im _ h h'=>by
  have he:a.eval x=.string s:=h;have he':a.eval y=.int kd i:=h';refine⟨.int .u8 (bAt s m),?_,rfl⟩;subst hm;have hlt:i.toNat<s.size:=by omega
  have hb:bAt s i.toNat=((s[i.toNat]'hlt).toNat:Int):=by
   unfold bAt;rw[Ajt,Array.getElem?_toList];have:i.toNat<s.data.size:=hlt;rw[Array.getElem?_eq_getElem this];rfl
  simp only[execOp,he,he',run_index_string w t s kd i (ht.string hk),h1,h2,and_self,dif_pos,Sem.run_bind,Result.andThen_ok,Sem.run_pure,hb]) (fun nm' h=>by cases h) k
theorem bytes_beq (a b:ByteArray):(a.toList == b.toList)=decide (a=b):=by
 rw[<-beq_toListBytes];cases a with|mk x=>
 cases b with|mk y=>
 show(x == y)=_;by_cases e:x=y
 ·subst e;simp
 ·simp[e]
theorem S3 {w:World} {a b:ByteArray} (hu:P.underlying t=some .string):(binOp .neq t (.string a) (.string b)).run P w=.ok (.bool (decide (a≠b))) w:=by
 simp only[binOp,Op.stringOp,Sem.run_pure,bytes_beq];by_cases e:a=b<;>simp[e]
theorem P8 {s1 s2:ByteArray} [ht:AT P t ti] (hg:GOK N ops σ gd gR) (hx:ev σ x=some (AD (.str s1))) (hy:ev σ y=some (AD (.str s2))) (hk:ti.k=.string) (hN:Nat.blt d N=true)
  (k:VR E ops dr rest (σ.set d (AB (decide (s1≠s2)))) ((gR.map (·.1)++(opK x++opK y),[.s d]) :: tr) K):VR E ops dr (⟨some d,.binOp .neq t x y yt,ty,pos,af,gd⟩ :: rest) σ tr K:=
 Fe (v:=AB (decide (s1≠s2))) hg rfl hx hy hN (fun _ ac w _ Im _ h h'=>by
  have h:ac.eval x=.string s1:=h;have h':ac.eval y=.string s2:=h';refine⟨.bool (decide (s1≠s2)),?_,rfl⟩;simp[execOp,h,h',eqGuard,S3 (ht.string hk)]) (fun _ h=>by cases h) k
def mkS (L:List Int):ByteArray:=L.foldl (fun r n=>r.push (UInt8.ofNat n.toNat)) ByteArray.empty
theorem AeN:∀(V:List Int),(rowOf EC V).flatten=V.map fun n=>C.d (.int .u8 n)
 |[]=>rfl
 |b :: V=>by
  have:=AeN V;simp only[rowOf,Akq,Aky,EC,Aku] at this ⊢;rw[this];rfl
theorem eq8 {ρ:Nat->RI} {w:World} {Im:Nat->Prop}:∀{V:List Int} {us:List Value},Bh (Cf ρ w Im) (V.map fun n=>C.d (.int .u8 n)) us->us=V.map (Value.int .u8)
 |[],_,h=>by cases h;rfl
 |b :: V,_,h=>by
  cases h with
  |cons h1 h2=>
   rw[eq8 h2];have h1:_=Value.int .u8 b:=h1;rw[h1];rfl
theorem H3 {nm T n:Nat} {L:List Int} [hs:AT P s si] [het:AT P te ei] [ht:AT P t ti] (hg:GOK N ops σ gd gR) (hx:ev σ x=some (.c (.row nm n))) (hb:σ (.b nm)=some (.k (.row T 1 (rowOf EC L)))) (hn:n=L.length)
  (hsk:si.k=.slice te) (hek:ei.k=.int .u8) (htk:ti.k=.string) (hN:Nat.blt d N=true)
  (k:VR E ops dr rest (σ.set d (AD (.str (mkS L)))) ((gR.map (·.1)++(opK x++[.b nm]),[.s d]) :: tr) K):VR E ops dr (⟨some d,.convert s t x,ty,pos,af,gd⟩ :: rest) σ tr K:=by
 refine D2 (x:=AD (.str (mkS L))) (R:=opR x (.c (.row nm n))++[(.b nm,some (.k (.row T 1 (rowOf EC L))))]) hg rfl hN (fun σ a w ρ Im hs' hR=>?_)
  (Ah (Bp hx) (by intro p hp;rw[AjI] at hp;subst hp;exact hb)) (by rw[Akl,A4];rfl) k
 have hb':σ (.b nm)=some (.k (.row T 1 (rowOf EC L))):=hR (.b nm,_) (by simp);obtain⟨hr,_⟩:=B5 hs' (Cb hx fun p hp=>hR p (AjA _ hp));have he:a.eval x=if(ρ nm).isNil then .slice none 0 0 else .slice (some ⟨(ρ nm).blk,0,none⟩) n (ρ nm).cap:=hr
 refine⟨.string (mkS L),?_,rfl,fun n hn=>by cases hn⟩;have hbk:=hs'.bk nm _ hb';unfold BQ at hbk;cases hnil:(ρ nm).isNil with
 |true=>
  simp only[hnil,if_true] at hbk he;have hL:L=[]:=by cases L with
   |nil=>rfl
   |cons a l=>cases hbk
  subst hL;simp[execOp,he,run_convert_bytes_string w s t te none 0 0 (hs.slice hsk) (het.int hek) (ht.string htk),Conv.bytesToString]
  rfl
 |false=>
  simp only[hnil,Akr,if_false] at hbk he;obtain⟨us,spare,hh,ha,_⟩:=hbk;rw[AeN] at ha;have hus:=eq8 ha;subst hus;have hcells:=run_loadCells_list (P:=P) w ⟨(ρ nm).blk,0,none⟩ (L.map (Value.int .u8)) (fun j v hv=>by
   refine Fz hh 0 j v ?_;rw[Alb,Akv (Akg.1 hv).1];exact hv)
  rw[AjK,<-hn] at hcells;have hq:=run_bytesToString (P:=P) w ⟨(ρ nm).blk,0,none⟩ n (ρ nm).cap L hcells;simp[execOp,he,run_convert_bytes_string w s t te _ n _ (hs.slice hsk) (het.int hek) (ht.string htk),hq]
  rfl
theorem Aif (n:Nat):madeCells (Value.int .u8 0).cells n=((List.replicate n (0:Int)).map (Value.int .u8)).toArray:=by
 unfold madeCells
 apply Array.ext'
 simp[Value.cells];refine List.ext_getElem (by simp) fun i h1 h2=>?_
 simp[Nat.mod_one]
theorem AaK {n:Nat} {kd:IntKind} {i:Int} [ht:AT P t ti] [het:AT P te ei] (hg:GOK N ops σ gd gR) (hx:ev σ x=some (AD (.int kd i))) (hk:ti.k=.slice te) (hsz:ei.size=1) (hby:ei.bytes=1) (hz:ei.zero=.int .u8 0)
  (h0:0<=i) (hn:n=i.toNat) (hmax:n<=16777216) (hfresh:σ (.b d)=none) (hN:Nat.blt d N=true)
  (k:VR E ops dr rest ((σ.upd (.b d) (some (.k (.row te 1 (rowOf EC (List.replicate n 0)))))).set d (.c (.row d n))) ((gR.map (·.1)++(opK x++[.b d]),[.b d,.s d]) :: tr) K):VR E ops dr (⟨some d,.makeSlice t x x,ty,pos,af,gd⟩ :: rest) σ tr K:=by
 refine EP (R:=opR x (AD (.int kd i))++[(.b d,none)]) (U:=[(.b d,some (.k (.row te 1 (rowOf EC (List.replicate n 0))))),(.s d,some (.v (.c (.row d n))))]) hg (fun σ a w ρ Im hs hR K Q hK=>?_)
  (Ah (Bp hx) (by intro p hp;rw[AjI] at hp;subst hp;exact hfresh)) (by rw[Akl,A4];rfl) rfl k
 have hf:σ (.b d)=none:=hR (.b d,none) (by simp);obtain⟨hr,_⟩:=B5 hs (Cb hx fun p hp=>hR p (AjA _ hp));have he:a.eval x=.int kd i:=hr;have hi:i=(n:Int):=by omega
 clear hn;subst hi;obtain⟨inf,hi1,hi2,hi3,hi4⟩:=het.get;have hmk:=run_make (P:=P) w t te inf ei.zero (ht.slice hk) hi1 hi4 kd kd (n:Int) (n:Int) (by omega) (by omega) (by rw[hi3,hby];omega) (by omega);rw[hi2,hsz,hz,Nat.mul_one,Aif,Ale] at hmk;unfold Oper.wp;have hrun:(execOp a.eval ⟨some d,.makeSlice t x x,ty,pos,af,gd⟩).run P w=.ok (.value (.slice (some ⟨w.heap.size,0,none⟩) n n)) (w.alloc (.cells ((List.replicate n (0:Int)).map (Value.int .u8)).toArray te)):=by
  simp[execOp,he,hmk]
 rw[hrun];refine hK _ _ ?_;have hnew:E2 ρ d ⟨w.heap.size,n,false⟩ d=⟨w.heap.size,n,false⟩:=by simp[E2]
 have h1:A8 E (σ.upd (.b d) (some (.k (.row te 1 (rowOf EC (List.replicate n 0)))))) a (w.alloc (.cells ((List.replicate n (0:Int)).map (Value.int .u8)).toArray te)) (E2 ρ d ⟨w.heap.size,n,false⟩) Im:=by
  refine hs.QZ hf _ n ?_ (fun m hm=>?_)
  ·unfold BQ;rw[hnew];simp only[Akr,if_false];refine⟨(List.replicate n (0:Int)).map (Value.int .u8),[],by rw[AjQ];exact heap_alloc_new w _,?_,?_,?_,?_,?_⟩
   ·rw[AeN];exact Zm _
   ·intro x hx;obtain⟨b,_,rfl⟩:=Aj5.1 hx
    rfl
   ·simp
   ·rw[An];simp
   ·show n<=maxLen;unfold maxLen;omega
  ·exfalso;simp only[Blk.mentions,AjM] at hm;obtain⟨x,hx,c,hc,hcm⟩:=hm;obtain⟨b,_,rfl⟩:=Aj5.1 hx;simp only[EC,Akq,Aku,AjI] at hc;subst hc;cases hcm
 refine⟨_,_,h1.put (by simpa using hN) ?_ ?_⟩
 ·show _=_;rw[hnew];rfl
 ·intro nm hn;have:d=nm:=by simpa [AV.mentions,AV.A3,C.mentions] using hn
  subst this;rw[St.AM];simp
end
end Go.Sx
namespace Go.Sx
open Go Go.RowKit
variable {P:Program} {N:Nat} {E:Env P N}
theorem TA {n:Nat} {o:Oper} {a:Act} {w:World} {K:Act->World->Prop} {Q:Exit->Act->World->Prop} (h:o.wp P a w K Q):o.wpIn Fence.wide n P a w K Q:=by
 refine⟨fun _ _=>trivial,?_⟩;show Oper.uponIn Fence.wide n P o a K Q ((execOp a.eval o).run P w);unfold Oper.wp at h
 revert h
 generalize (execOp a.eval o).run P w=r;intro h;rcases r with⟨x,w'⟩|⟨x,w'⟩
 ·cases x
  case enter f args=>exact⟨(fun h=>by cases h),callsIn_wide.2 h⟩
  case row r args=>exact⟨(fun h=>by cases h),fun c cs _=>by obtain⟨v,w2,h1,h2⟩:=h c cs;exact⟨v,w2,h1,stepsIn_wide.2 h2⟩⟩
  case value=>exact h
  case skip=>exact h
  case defer=>exact h
  all_goals exact False.elim h
 ·cases x
  case panic=>exact h
  all_goals exact False.elim h
theorem Aey {n:Nat} {ops:Array Oper} {pre rest:List Oper} {σ σ':St} {tr:List (List Key×List Key)} (hr:XF E ops pre σ tr σ') {Q:Exit->Act->World->Prop} (hno:¬LetsOut Q)
  (hQ:∀a w,Sat E σ' a w->wpListIn Fence.wide n P ops Q rest a w):∀a w,Sat E σ a w->wpListIn Fence.wide n P ops Q (pre++rest) a w:=by
 induction hr with
 |nil=>exact fun a w h=>hQ a w h
 |cons hact hR _ ih=>
  intro a w h;have:=hact _ a w (wpListIn Fence.wide n P ops Q _) Q h hR (fun a' w' h'=>ih hQ a' w' h');rw[Akt];unfold wpListIn
  split
  ·rename_i hw;rw[Akc hw] at this;rcases this with h1|⟨_,h2⟩
   ·exact TA h1
   ·exact absurd h2 hno
  ·rename_i hw;rw[Akb hw] at this;exact⟨fun _ _=>trivial,this⟩
end Go.Sx
namespace Go.Sx
open Go Go.RowKit
variable {P:Program}
structure HY (p:Nat->Obj->Prop) (W W':World):Prop where
 os:W'.os=W.os
 tape:W'.tape=W.tape
 output:W'.output=W.output
 size:W.heap.size<=W'.heap.size
 block:∀b o,W.heap[b]?=some o->¬p b o->W'.heap[b]?=some o
def Ka (own:TypeId->Prop) (o:Obj):Prop:=∃us T fz,o=.cells us T fz/\own T
def itP (B:Nat) (own:TypeId->Prop) (b:Nat) (o:Obj):Prop:=B<=b/\Ka own o
def loP (B:Nat) (own:TypeId->Prop) (b:Nat) (o:Obj):Prop:=B<=b/\(o.isCells=false\/Ka own o)
def rdP (B:Nat) (own:TypeId->Prop) (b:Nat) (o:Obj):Prop:=B<=b/\¬Ka own o
theorem HY.refl (p:Nat->Obj->Prop) (W:World):HY p W W:=⟨rfl,rfl,rfl,Akd _,fun _ _ h _=>h⟩
theorem HY.trans {p:Nat->Obj->Prop} {A B C:World} (h:HY p A B) (k:HY p B C):HY p A C:=
 ⟨k.os.trans h.os,k.tape.trans h.tape,k.output.trans h.output,Akn h.size k.size,fun b o hb hp=>k.block b o (h.block b o hb hp) hp⟩
theorem HY.mono {p q:Nat->Obj->Prop} {A B:World} (h:HY p A B) (hpq:∀b o,p b o->q b o):HY q A B:=
 ⟨h.os,h.tape,h.output,h.size,fun b o hb hq=>h.block b o hb fun hp=>hq (hpq b o hp)⟩
theorem HY.alloc (p:Nat->Obj->Prop) (W:World) (o:Obj):HY p W (W.alloc o):=by
 have hg:=World.grownBy_alloc W o none;exact⟨hg.os,hg.tape,hg.output,hg.size,fun b o' hb _=>(hg.block b (Array.getElem?_eq_some_iff.1 hb).1 (by simp)).trans hb⟩
theorem HY.grown {p:Nat->Obj->Prop} {W W':World} {row:Option Nat} (hg:W.grownBy W' row) (hp:∀r o,row=some r->W.heap[r]?=some o->p r o):HY p W W':=
 ⟨hg.os,hg.tape,hg.output,hg.size,fun b o hb hn=>(hg.block b (Array.getElem?_eq_some_iff.1 hb).1 (fun e=>hn (hp b o e.symm hb))).trans hb⟩
theorem HY.putObj {p:Nat->Obj->Prop} {W:World} {l:Nat} {o:Obj} (o':Obj) (h:W.heap[l]?=some o) (hp:p l o):HY p W (W.putObj l o'):=
 HY.grown (grownBy_putObj' W l o') (fun r o2 e hr=>by cases e;rw[h] at hr;cases hr;exact hp)
theorem HY.below {p:Nat->Obj->Prop} {W W':World} {B:Nat} (h:HY p W W') (hB:B<=W.heap.size) (hp:∀b o,p b o->B<=b):Below B W W':=
 ⟨h.os,h.tape,h.output,h.size,fun b hb=>by
  have hlt:b<W.heap.size:=by omega
  have hs:W.heap[b]?=some W.heap[b]:=Array.getElem?_eq_getElem hlt;exact(h.block b _ hs fun hq=>by have:=hp _ _ hq;omega).trans hs.symm⟩
def AhC {α:Type} (own:TypeId->Prop) (P:Program) (g:Nat) (lb:Array Value) (encs:α->Array Value) (S:List α->Prop) (N:Nat) (w:World):Prop:=
 ∀(l:Nat) (J:List α->World->Prop) (W:World),Below w.heap.size w W->(∀s W0 W1,J s W0->HY (itP W.heap.size own) W0 W1->J s W1)->
  (∀m pre x W1,J pre W1->pre.length<N->YieldAt Fence.wide m P l (encs x) W1 fun e W'=>e=.returned (.bool true)/\J (pre++[x]) W'/\HY (rdP w.heap.size own) W1 W')->
  J [] W->
  Calls P g (#[.func (.yield l) #[] #[]]++lb) W fun e W'=>(∃v,e=.returned v)/\∃xs,S xs/\J xs W'
theorem KV {α:Type} {n:Nat} {own:TypeId->Prop} {g:Operand} {ps:Array Tmp} {assign body:Code} {Q:Exit->Act->World->Prop} {a:Act} {w:World}
  {gf:Nat} {lb:Array Value} (hg:a.eval g=.func (.func gf) #[] lb) (eg:∀args w,(callFunc gf args).run P w=.ok (.enter gf args) w)
  {encs:α->Array Value} {S:List α->Prop} {N:Nat} {w0:World} (hseq:AhC own P gf lb encs S N w0) (hb0:Below w0.heap.size w0 w) (hps:∀x,(encs x).size=ps.size)
  (I:List α->World->Prop) (hI:∀s W0 W1,I s W0->HY (loP w.heap.size own) W0 W1->I s W1) (h0:I [] w) (a₁:α->Act)
  (hassign:∀(l m:Nat) (x:α) (W:World) (K:Act->World->Prop),K (a₁ x) W->
    assign.wpIn (Fence.wide.inRound l) m P (Exit.then K (fun _ _ _=>False)) {tmps:=(ps.zip (encs x)).foldl (fun t (p,v)=>t.setIfInBounds p v) a.tmps,defers:=[]} W)
  (hbody:∀(l m:Nat) (pre:List α) (x:α) (W:World),I pre W->pre.length<N->body.wpIn (Fence.wide.inRound l) m P (fun e _ W'=>e=.normal/\KeepsOthers W W'/\HY (rdP w0.heap.size own) W W'/\I (pre++[x]) W') (a₁ x) W)
  (hdone:∀(D:Nat) (xs:List α) (W:World),w.heap.size<=D->S xs->I xs W->W.heap[D]?=some (.deferred (some []))->Q .normal {a with defers:={target:=.collected D,args:=#[]} :: a.defers} W):
  (Code.rangeFunc g ps assign body).wpIn Fence.wide n P Q a w:=by
 refine wpIn_rangeFunc ?_;intro fn hfn;obtain⟨rec,hrec⟩:∃rec:LoopState->Option Code->Loop,rec=fun st pe=>{state:=st,pending:=pe,fn,tmps:=a.tmps,params:=ps,assign,body,defers:=w.heap.size}:=⟨_,rfl⟩
 obtain⟨W1,hW1⟩:∃W1,(w.alloc (.deferred (some []))).alloc (.loop (rec .ready none))=W1:=⟨_,rfl⟩;have hL1:W1.heap[w.heap.size+1]?=some (.loop (rec .ready none)):=by
  rw[<-hW1];have:=World.alloc_heap_new (w.alloc (.deferred (some []))) (.loop (rec .ready none));rwa [World.size_alloc] at this
 have hK1:W1.heap[w.heap.size]?=some (.deferred (some [])):=by
  rw[<-hW1];exact(Below.heap_alloc _ _ _ (by simp)).trans (World.alloc_heap_new w _)
 have ht1:∀p,HY p w W1:=fun p=>by rw[<-hW1];exact(HY.alloc p _ _).trans (HY.alloc p _ _)
 have hsz:w.heap.size<=W1.heap.size:=(ht1 (fun _ _=>False)).size;have hb1:Below w0.heap.size w0 W1:=hb0.trans ((ht1 (fun _ _=>False)).below hb0.size (fun _ _ h=>h.elim));have noc:∀{st pe},¬Ka own (.loop (rec st pe)):=by rintro st pe ⟨_,_,_,e,_⟩;cases e
 have nod:∀{ds},¬Ka own (.deferred ds):=by rintro ds ⟨_,_,_,e,_⟩;cases e
 have hput:∀{s W st pe} (o':Obj),I s W->W.heap[w.heap.size+1]?=some (.loop (rec st pe))->I s (W.putObj (w.heap.size+1) o'):=fun o' hs hl=>hI _ _ _ hs (HY.putObj o' hl ⟨by omega,.inl rfl⟩)
 refine⟨w.heap.size+1,[{target:=.collected w.heap.size,args:=#[]}],W1,{target:=.fn (.func gf) lb,args:=#[.func (.yield (w.heap.size+1)) #[] #[]]},W1,gf,
  #[.func (.yield (w.heap.size+1)) #[] #[]]++lb,W1,?_,?_,fun _ _=>trivial,?_,(fun h=>by cases h),?_⟩
 ·rw[<-hW1,hrec];exact run_enterLoop_outer _ _ _ _ _
 ·simp only[resolve,hg];simp[go_sem]
 ·simp[invoke,go_sem,eg]
 ·refine callsIn_wide.2 ((hseq (w.heap.size+1)
   (fun pre W=>I pre W/\W.heap[w.heap.size+1]?=some (.loop (rec .ready none))/\W.heap[w.heap.size]?=some (.deferred (some [])))
   W1 hb1
   (fun s A B hs ht=>⟨hI s A B hs.1 (ht.mono fun b o h=>⟨by have:=h.1;omega,.inr h.2⟩),ht.block _ _ hs.2.1 (fun h=>noc h.2),ht.block _ _ hs.2.2 (fun h=>nod h.2)⟩)
   ?_ ⟨hI _ _ _ h0 (ht1 _),hL1,hK1⟩).mono ?_)
  ·rintro m pre x W ⟨hi,hl,hk⟩ hlen;have hlt:w.heap.size+1<W.heap.size:=(Array.getElem?_eq_some_iff.1 hl).1;have hy:=run_yield (P:=P) (args:=encs x) hl (by rw[hrec];exact hps x);rw[hrec] at hy;refine⟨fn,_,assign,body,hy,roundIn_of_wpIn hfn (hassign _ m x W _ ⟨_,run_beginRound hl (by rw[hrec]),?_⟩)⟩;have hl2:(W.putObj (w.heap.size+1) (.loop {rec .ready none with state:=.busy})).heap[w.heap.size+1]?=some (.loop {rec .ready none with state:=.busy}):=World.putObj_heap_same hlt;have hk2:(W.putObj (w.heap.size+1) (.loop {rec .ready none with state:=.busy})).heap[w.heap.size]?=some (.deferred (some [])):=(World.putObj_heap_other (by omega)).trans hk;have hn0:w0.heap.size<=w.heap.size+1:=by have:=hb0.size;omega
   have hw2:HY (rdP w0.heap.size own) W (W.putObj (w.heap.size+1) (.loop {rec .ready none with state:=.busy})):=HY.putObj _ hl ⟨hn0,noc⟩;refine wpIn_mono (hbody _ m pre x _ (hput _ hi hl) hlen) ?_;rintro e a3 W3 ⟨rfl,hk3,ht3,hi3⟩;have hl3:=hk3.same _ _ hl2 rfl;have hr:=run_endRound (P:=P) none hl3;have he:({rec .ready none with state:=.busy}:Loop)=rec .busy none:=by rw[hrec]
   rw[he] at hl3;refine⟨_,_,hr,rfl,⟨?_,?_,?_⟩,hw2.trans (ht3.trans (HY.putObj _ hl3 ⟨hn0,noc⟩))⟩
   ·exact hput _ hi3 hl3
   ·have:=World.putObj_heap_same (o:=.loop (rec .ready none)) (Array.getElem?_eq_some_iff.1 hl3).1;rw[hrec] at this ⊢;exact this
   ·exact(World.putObj_heap_other (by omega)).trans (hk3.same _ _ hk2 rfl)
  ·rintro e W2 ⟨⟨v,rfl⟩,xs,hS,hi,hl,hk⟩;exact⟨none,_,by have:=run_endLoop (P:=P) hl (by rw[hrec];simp);rw[hrec] at this;exact this,hdone _ xs _ (Akd _) hS (hput _ hi hl) ((World.putObj_heap_other (by omega)).trans hk)⟩
end Go.Sx
namespace Go.Sx
open Go Go.RowKit
section
variable {P:Program} {N:Nat}
def VX (E:Env P N) (c:Code) (R:Exit->Act->World->Prop) (σ:St):Prop:=∀a w,Sat E σ a w->c.wp P R a w
theorem VX.run {E:Env P N} {c:Code} {R:Exit->Act->World->Prop} {σ:St} (h:VX E c R σ) {a:Act} {w:World} (hs:Sat E σ a w):c.wp P R a w:=h a w hs
theorem VX.mk {E:Env P N} {c:Code} {R:Exit->Act->World->Prop} {σ:St} (h:∀a w,Sat E σ a w->c.wp P R a w):VX E c R σ:=h
theorem P3 {E:Env P N} {c:Code} {R:Exit->Act->World->Prop} {σ:St} (h:VC E c (fun e σ'=>∀a w,Sat E σ' a w->R e a w) σ):VX E c R σ:=
 fun a w hs=>wp_mono (h a w hs) fun e a' w' ⟨σ',h1,h2⟩=>h2 a' w' h1
theorem UC {E:Env P N} {x y:Code} {R:Exit->Act->World->Prop} {σ:St} (h:VC E x (thenQ (fun σ'=>VX E y R σ') (fun e σ'=>∀a w,Sat E σ' a w->R e a w)) σ):VX E (.seq x y) R σ:=fun a w hs=>
 wp_seq (wp_mono (h a w hs) fun e a' w' ⟨σ',h1,h2⟩=>by
  cases e with
  |normal=>exact h2 a' w' h1
  |_=>exact h2 a' w' h1)
theorem VX.le {E:Env P N} {c:Code} {R:Exit->Act->World->Prop} {σ σ':St} (h:Le E σ σ') (k:VX E c R σ'):VX E c R σ:=fun a w hs=>k a w (h a w hs)
def Ahk (E:Env P N) (b o:Nat) (x:D):Prop:=
 (∃v,E.w0.cell? ⟨b,o,none⟩=some v/\DT E.w0 E.Im0 x v)/\b<E.w0.heap.size/\¬E.S0 b/\∀b',E.Im0 b'->b'<E.w0.heap.size/\¬E.S0 b'
theorem A8.more {E:Env P N} {σ:St} {a:Act} {w:World} {ρ:Nat->RI} {Im:Nat->Prop} (h:A8 E σ a w ρ Im) (h0:∀b',E.Im0 b'->b'<E.w0.heap.size/\¬E.S0 b'):A8 E σ a w ρ (fun b=>Im b\/E.Im0 b) where
 fr:=fun t x hx=>Ca.Bo (fun _ hb=>⟨.inl hb,rfl⟩) (fun _ _=>rfl) (h.fr t x hx)
 bk:=fun nm b hb=>BQ.Bo (fun _ hb=>⟨.inl hb,rfl⟩) rfl (fun _ _=>rfl) (fun _ _=>rfl) (h.bk nm b hb)
 own:=h.own
 inj:=h.inj
 im:=fun b hb=>by
  rcases hb with hb|hb
  ·exact h.im b hb
  ·obtain⟨h1,h2⟩:=h0 b hb;refine⟨.inl hb,by have:=h.Bo.size;omega,fun nm bk hk hl hn e=>?_⟩;rcases (h.own nm bk hk hl hn).2 with h3|h3
   ·rw[e] at h3;exact h2 h3
   ·omega
 wf:=h.wf
 defers:=h.defers
 size:=h.size
 Bo:=h.Bo
theorem Bc {E:Env P N} {ops:Array Oper} {dr:Bool} {rest:List Oper} {σ:St} {tr:Trace} {K:St->Prop} {d:Nat} {t ty:TypeId} {pos:String} {af:Array Edge} {gd:Option (Nat×Bool)} {gR:Ck} {x:Operand} {ti:TyI}
  {b o:Nat} {z:D} [ht:AT P t ti] (hg:GOK N ops σ gd gR) (hx:ev σ x=some (AD (.raw (.pointer (some ⟨b,o,none⟩))))) (hc:Ahk E b o z) (hagg:ti.isAgg=false) (hN:Nat.blt d N=true)
  (k:VR E ops dr rest (σ.set d (AD z)) ((gR.map (·.1)++opK x,[.s d]) :: tr) K):VR E ops dr (⟨some d,.load t x,ty,pos,af,gd⟩ :: rest) σ tr K:=by
 refine EP (R:=opR x (AD (.raw (.pointer (some ⟨b,o,none⟩))))) (U:=[(.s d,some (.v (AD z)))]) hg (fun σ a w ρ Im hs hR K Q hK=>?_) (Bp hx) (A4 x _) rfl k;have hx':=Cb hx hR;obtain⟨hr,_⟩:=B5 hs hx';have he:a.eval x=.pointer (some ⟨b,o,none⟩):=hr.1;obtain⟨⟨v,hv,hrep⟩,hlt,hns,him⟩:=hc;have hcell:w.cell? ⟨b,o,none⟩=some v:=(World.cell?_of_block (hs.Bo.block b hlt hns)).trans hv;unfold Oper.wp;have hrun:(execOp a.eval ⟨some d,.load t x,ty,pos,af,gd⟩).run P w=.ok (.value v) w:=by
  simp[execOp,he,Instr.loadAt,Instr.sureAddr,loadVar,ht.FG,hagg,hcell]
 rw[hrun];refine hK _ _ ⟨ρ,_,(hs.more him).put (by simpa using hN) ?_ (fun nm hn=>by cases hn)⟩;exact DT.Bo (fun b' hb'=>⟨.inr hb',hs.Bo.block b' (him b' hb').1 (him b' hb').2⟩) hrep
theorem Qj {own:TypeId->Prop} {B:Nat} {w0 w:World} {S:Nat->Prop} (h:IL w0 S w) (hS:∀b,S b->B<=b/\∃us T fz,w0.heap[b]?=some (.cells us T fz)/\own T):HY (itP B own) w0 w:=
 ⟨h.os,h.tape,h.output,h.size,fun b o hb hn=>(h.block b (Array.getElem?_eq_some_iff.1 hb).1 (fun hs=>hn (by
  obtain⟨h1,us,T,fz,h2,h3⟩:=hS b hs;rw[hb] at h2;cases h2;exact⟨h1,us,T,fz,rfl,h3⟩))).trans hb⟩
theorem Mz {E:Env P N} {n:Nat} {ops:Array Oper} {pre rest:List Oper} {σ:St} {Q:Exit->Act->World->Prop} (hno:¬LetsOut Q) (h:VR E ops false pre σ [] (fun σ'=>∀a w,Sat E σ' a w->wpListIn Fence.wide n P ops Q rest a w)):
  ∀a w,Sat E σ a w->wpListIn Fence.wide n P ops Q (pre++rest) a w:=by
 obtain⟨tr,σ',hr,_,hK⟩:=h;exact Aey hr hno hK
theorem AaG {n:Nat} {ops:Array Oper} {rest:List Oper} {Q:Exit->Act->World->Prop} {a:Act} {w:World} {d:Nat} {f x:Operand} {ats:Array TypeId} {ty:TypeId} {pos:String} {af:Array Edge} {gd:Option (Nat×Bool)} {l:Nat} {v:Value} {R:World->Prop}
  (hw:Region.wanted ⟨some d,.call ⟨.value f,#[x],ats⟩,ty,pos,af,gd⟩ (yielded ops a.tmps)=true) (hf:a.eval f=.func (.yield l) #[] #[]) (hx:a.eval x=v)
  (hy:YieldAt Fence.wide (n-1) P l #[v] w fun e W'=>e=.returned (.bool true)/\R W')
  (hK:∀w',R w'->wpListIn Fence.wide n P ops Q rest (a.put (some d) (.bool true)) w'):wpListIn Fence.wide n P ops Q (⟨some d,.call ⟨.value f,#[x],ats⟩,ty,pos,af,gd⟩ :: rest) a w:=by
 unfold wpListIn;rw[Akc hw];refine⟨fun _ _=>trivial,?_⟩;obtain⟨fn,tmps,assign,body,hrun,hround⟩:=hy;have hr:(Oper.semAt Fence.wide.round a.eval ⟨some d,.call ⟨.value f,#[x],ats⟩,ty,pos,af,gd⟩).run P w=.ok (.round l fn tmps assign body) w:=by
  show(execOp a.eval ⟨some d,.call ⟨.value f,#[x],ats⟩,ty,pos,af,gd⟩).run P w=_;obtain⟨tv,htv⟩:∃t:Value,t=a.eval f:=⟨_,rfl⟩;generalize a.eval=ev0 at hf hx;simp[execOp,hf,hx,resolve,invoke,go_sem,hrun]
 rw[hr,Oper.uponIn_round];refine⟨(fun h=>by cases h),hround.mono fun e w' h=>?_⟩;obtain⟨rfl,h2⟩:=h;exact hK w' h2
theorem Aav {E:Env P N} {σ σ':St} {G:Act->World->Prop} (h:Le E σ σ') (k:∀a w,Sat E σ' a w->G a w):∀a w,Sat E σ a w->G a w:=fun a w hs=>k a w (h a w hs)
theorem Vh {n:Nat} {ops:Array Oper} {l pre rest:List Oper} {Q:Exit->Act->World->Prop} {a:Act} {w:World} (k:Nat) (h1:l.take k=pre) (h2:l.drop k=rest) (h:wpListIn Fence.wide n P ops Q (pre++rest) a w):wpListIn Fence.wide n P ops Q l a w:=by
 subst h1;subst h2
 rwa [AjS] at h
theorem Hg {n:Nat} {ops:Array Oper} {l pre rest:List Oper} {Q:Exit->Act->World->Prop} {a:Act} {w:World} (k:Nat) (h:wpListIn Fence.wide n P ops Q (pre++rest) a w) (h1:l.take k=pre:=by simp only[List.take_succ_cons,List.take_zero];rfl) (h2:l.drop k=rest:=by simp only[Alg,Alb];rfl):wpListIn Fence.wide n P ops Q l a w:=Vh k h1 h2 h
theorem Aa4 {w:World} {ρ:Nat->RI} {Im S0:Nat->Prop} {args:List AV} {vs:List Value} {nt:Nat} (hargs:Bh (Ca (⟨w,Im,S0⟩:Env P N) ρ w Im) args vs) (hwf:Bj args []=true) (hlen:args.length<=N) (hnt:nt=N) (hIm:∀b,Im b->b<w.heap.size):
  Sat (⟨w,Im,S0⟩:Env P N) (D9 args []) {tmps:=vs.toArray++Array.replicate (nt-vs.toArray.size) undef,defers:=[]} w:=by
 have hl:vs.length=args.length:=hargs.length.symm;refine⟨ρ,Im,fun t x hx=>?_,fun nm b hb=>?_,fun nm b hb=>?_,fun n1 n2 b1 b2 h1=>?_,fun b hb=>⟨.inl hb,hIm b hb,fun nm bk hk=>?_⟩,LD hwf,rfl,by simp[hnt];omega,IL.refl _ _⟩
 ·simp only[D9,Akh] at hx;obtain⟨y,hy,he⟩:=hx;injection he with he
  subst he;obtain⟨u,hu,hr⟩:=hargs.get hy;have ht:t<vs.length:=(Akg.1 hu).1;have:(vs.toArray++Array.replicate (nt-vs.toArray.size) undef).getD t undef=u:=by
   rw[Array.getD_eq_getD_getElem?,Array.getElem?_append_left (by simpa using ht)];simp[hu]
  rw[this];exact hr
 ·simp[D9,As] at hb
 ·simp[D9,As] at hb
 ·simp[D9,As] at h1
 ·simp[D9,As] at hk
theorem Un {n:Nat} {ops:Array Oper} {rest:List Oper} {Q:Exit->Act->World->Prop} {a:Act} {w:World} {d:Nat} {op:Op} {ty:TypeId} {pos:String} {af:Array Edge} {g:FuncId} {vs:Array Value} {R:Value->World->Prop}
  (hrun:(execOp a.eval ⟨some d,op,ty,pos,af,none⟩).run P w=.ok (.enter g vs) w) (hc:Calls P g vs w fun e w'=>∃v,e=.returned v/\R v w')
  (hK:∀v w',R v w'->wpListIn Fence.wide n P ops Q rest (a.put (some d) v) w'):wpListIn Fence.wide n P ops Q (⟨some d,op,ty,pos,af,none⟩ :: rest) a w:=by
 unfold wpListIn;rw[Akc (show Region.wanted (⟨some d,op,ty,pos,af,none⟩:Oper) (yielded ops a.tmps)=true from rfl)];refine TA ?_;unfold Oper.wp;rw[hrun];show Calls P g vs w _;refine Calls.mono hc fun e w' h=>?_
 obtain⟨v,rfl,h2⟩:=h;exact hK v w' h2
theorem A8.grow {E:Env P N} {σ:St} {a:Act} {w w':World} {ρ:Nat->RI} {Im:Nat->Prop} (h:A8 E σ a w ρ Im) (hb:Below w.heap.size w w'):A8 E σ a w' ρ Im where
 fr:=fun t x hx=>Ca.Bo (fun b hI=>⟨hI,hb.block b (h.im b hI).2.1⟩) (fun _ _=>rfl) (h.fr t x hx)
 bk:=fun nm b hk=>BQ.Bo (fun b hI=>⟨hI,hb.block b (h.im b hI).2.1⟩) rfl (fun hn hl=>hb.block _ (h.own nm b hk hl hn).1) (fun _ _=>rfl) (h.bk nm b hk)
 own:=fun nm b hk hl hn=>⟨AjV (h.own nm b hk hl hn).1 hb.size,(h.own nm b hk hl hn).2⟩
 inj:=h.inj
 im:=fun b hI=>⟨(h.im b hI).1,AjV (h.im b hI).2.1 hb.size,(h.im b hI).2.2⟩
 wf:=h.wf
 defers:=h.defers
 size:=h.size
 Bo:=h.Bo.step hb.os hb.tape hb.output hb.size (fun b hlt hS=>hb.block b (AjV hlt h.Bo.size))
theorem A8.Ajn {E:Env P N} {σ:St} {a:Act} {w w':World} {ρ:Nat->RI} {Im:Nat->Prop} (h:A8 E σ a w ρ Im) (hb:Below w.heap.size w w') {nm:Nat} (hfresh:σ (.b nm)=none) (r:RI) (hr:r.isNil=true\/(w.heap.size<=r.blk/\r.blk<w'.heap.size)) {blk:Blk}
  (hk:BQ (E2 ρ nm r) w' Im nm blk) (hm:∀n,blk.mentions n=false):
  A8 E (σ.upd (.b nm) (some (.k blk))) a w' (E2 ρ nm r) Im:=by
 have hg:=h.grow hb;have hρ:∀n,σ (.b n)≠none->E2 ρ nm r n=ρ n:=fun n hn=>by
  unfold E2;rw[Akb (fun e=>hn (by rw[e];exact hfresh))]
 have hnew:E2 ρ nm r nm=r:=by simp[E2]
 have hother:∀n b,σ.upd (.b nm) (some (.k blk)) (.b n)=some (.k b)->n≠nm->σ (.b n)=some (.k b):=fun n b hb hn=>by
  rwa [St.At _ _ (by intro e;injection e with e;exact hn e.symm)] at hb
 refine⟨fun t x hx=>?_,fun n b hb'=>?_,fun n b hb' hl hn=>?_,fun n1 n2 b1 b2 h1 h2 l1 l2 i1 i2 hne=>?_,fun b hb'=>⟨(hg.im b hb').1,(hg.im b hb').2.1,fun n bk hk' hl hn=>?_⟩,fun k it hk' n hn=>?_,hg.defers,hg.size,hg.Bo⟩
 ·rw[St.At _ _ (by intro e;cases e)] at hx;exact Ca.Bo (fun _ hb=>⟨hb,rfl⟩) (fun n hn=>hρ n (h.wf _ _ hx n hn)) (hg.fr t x hx)
 ·by_cases hn:n=nm
  ·subst hn;rw[St.AM] at hb';injection hb' with hb';injection hb' with hb';subst hb'
   exact hk
  ·have hb0:=hother n b hb' hn;exact BQ.Bo (fun _ hb=>⟨hb,rfl⟩) (hρ n (by rw[hb0];simp)) (fun _ _=>rfl) (fun n' hn'=>hρ n' (h.wf _ _ hb0 n' hn')) (hg.bk n b hb0)
 ·by_cases he:n=nm
  ·subst he;rw[hnew] at hn ⊢;rcases hr with hr|hr
   ·rw[hr] at hn;cases hn
   ·refine⟨hr.2,.inr ?_⟩;have:=h.Bo.size;omega
  ·have hb0:=hother n b hb' he;rw[hρ n (by rw[hb0];simp)] at hn ⊢;exact hg.own n b hb0 hl hn
 ·by_cases e1:n1=nm
  ·subst e1;have e2:n2≠n1:=fun e=>hne e.symm
   have hb0:=hother n2 b2 h2 e2;rw[hρ n2 (by rw[hb0];simp)] at i2 ⊢;rw[hnew] at i1 ⊢;have:=(h.own n2 b2 hb0 l2 i2).1;rcases hr with hr|hr
   ·rw[hr] at i1;cases i1
   ·omega
  ·have hb1:=hother n1 b1 h1 e1;rw[hρ n1 (by rw[hb1];simp)] at i1 ⊢;by_cases e2:n2=nm
   ·subst e2;rw[hnew] at i2 ⊢;have:=(h.own n1 b1 hb1 l1 i1).1;rcases hr with hr|hr
    ·rw[hr] at i2;cases i2
    ·omega
   ·have hb2:=hother n2 b2 h2 e2;rw[hρ n2 (by rw[hb2];simp)] at i2 ⊢;exact h.inj n1 n2 b1 b2 hb1 hb2 l1 l2 i1 i2 hne
 ·by_cases he:n=nm
  ·subst he;rw[hnew] at hn ⊢;have:=(h.im b hb').2.1;rcases hr with hr|hr
   ·rw[hr] at hn;cases hn
   ·omega
  ·have hb0:=hother n bk hk' he;rw[hρ n (by rw[hb0];simp)] at hn ⊢;exact(h.im b hb').2.2 n bk hb0 hl hn
 ·by_cases he:n=nm
  ·subst he;rw[St.AM];simp
  ·rw[St.At _ _ (by intro e;injection e with e;exact he e.symm)];by_cases hkn:(Key.b nm)=k
   ·subst hkn;rw[St.AM] at hk';injection hk' with hk';subst hk'
    have:=hm n;rw[show blk.mentions n=true from hn] at this;cases this
   ·rw[St.At _ _ hkn] at hk';exact h.wf k it hk' n hn
theorem VC.mk {E:Env P N} {c:Code} {Q:Exit->St->Prop} {σ:St} (h:∀a w,Sat E σ a w->c.wp P (fun e a' w'=>∃σ',Sat E σ' a' w'/\Q e σ') a w):VC E c Q σ:=h
theorem Ql {next:St->Prop} {Q:Exit->St->Prop} {σ:St} (h:thenQ next Q .outgrown σ):Q .outgrown σ:=h
theorem Vz {w:World} {a:Act} {d:Nat} {g:FuncId} {xs:List Operand} {ats:Array TypeId} {ty:TypeId} {pos:String} {af:Array Edge} {gd:Option (Nat×Bool)} (hen:Enters P g):
  (execOp a.eval ⟨some d,.call ⟨.value (.func g),xs.toArray,ats⟩,ty,pos,af,gd⟩).run P w=.ok (.enter g (xs.map a.eval).toArray) w:=by
 have he:a.eval (.func g)=.func (.func g) #[] #[]:=rfl;simp only[execOp,resolve,Sem.run_bind,he,Deferred.ofValue,Sem.run_pure,Result.andThen_ok,invoke];have:(#[]++(xs.toArray.map a.eval)++#[]:Array Value)=(xs.map a.eval).toArray:=by simp
 rw[this];exact hen _ _
end
def Afl (P:Program) (t:TypeId):Bool:=match P.underlying t with
 |some (.func _ _ _)=>true
 |_=>false
section
variable {d:Nat} {t kt et yt ty:TypeId} {pos:String} {af:Array Edge} {gd:Option (Nat×Bool)} {gR:Ck} {x y z:Operand} {ti ei:TyI} {nm n:Nat} {es:List (List Int×C)} {a:List Int}
theorem H0 {i:Int} {c0 c:C} [ht:AT P t ti] [he:AT P et ei] [hk:NN P kt 1] (hg:GOK N ops σ gd gR) (hx:ev σ x=some (.c (.mp nm))) (hb:σ (.b nm)=some (.k (.map es))) (hy:ev σ y=some (AD (.int .i64 i))) (htk:ti.k=.map kt et)
  (hes:(es.all fun p=>Nat.beq p.1.length 1)=true) (hz:KR ei.zero=some c0) (hl:(FZ es [i]).getD c0=c) (hN:Nat.blt d N=true)
  (k:VR E ops dr rest (σ.set d (.c c)) ((gR.map (·.1)++(opK x++(opK y++[.b nm])),[.s d]) :: tr) K):
  VR E ops dr (⟨some d,.lookup t x y false,ty,pos,af,gd⟩ :: rest) σ tr K:=by
 subst hl;exact Qb (n:=1) false hg hx hb hy rfl htk rfl (fun p hp=>by have:=AjL.1 hes p hp;simpa using this) hz hN k
theorem Zf (h:Afl P t=true):∃a b c,P.underlying t=some (.func a b c):=by
 unfold Afl at h
 split at h
 ·exact⟨_,_,_,‹_›⟩
 ·cases h
theorem Wa {w:World} (hf:Afl P t=true) (f:Fn) (fi ca:Array Value):(Op.equal t (.func f fi ca) .nilFunc).run P w=.ok false w:=by
 obtain⟨_,_,_,hu⟩:=Zf hf;unfold Op.equal Op.equalIn Op.maxDepth;simp[run_underlying hu]
theorem S6 {w:World} (hf:Afl P t=true):(Op.equal t .nilFunc .nilFunc).run P w=.ok true w:=by
 obtain⟨_,_,_,hu⟩:=Zf hf;unfold Op.equal Op.equalIn Op.maxDepth;simp[run_underlying hu]
theorem XJ (hf:Afl P t=true) (hg:GOK N ops σ gd gR) (hx:ev σ x=some (AD (.raw .nilFunc))) (hN:Nat.blt d N=true)
  (k:VR E ops dr rest (σ.set d (AB true)) ((gR.map (·.1)++opK x,[.s d]) :: tr) K):VR E ops dr (⟨some d,.binOp .eql t x (.const .nilFunc) yt,ty,pos,af,gd⟩ :: rest) σ tr K:=
 E3 (v:=AB true) hg rfl hx hN (fun _ ac w ρ Im _ h=>by
  have he:ac.eval x=.nilFunc:=h.1;have h1:ac.eval (.const .nilFunc)=.nilFunc:=rfl;refine⟨.bool true,?_,rfl⟩;simp[execOp,he,h1,eqGuard,binOp,S6 hf]) (fun _ h=>by cases h) k
end
theorem GR {P:Program} {N:Nat} {E:Env P N} {Q:Exit->St->Prop} {e:Exit} {σ σ1:St} (h:Le E σ σ1) (k:retL E Q e σ1):retL E Q e σ:=by
 obtain⟨σ2,h1,h2⟩:=k;exact⟨σ2,fun a w x=>h1 a w (h a w x),h2⟩
theorem Ie {k:Nat}:Fs k []=[]:=rfl
section
variable {d:Nat} {t kt et yt ty:TypeId} {pos:String} {af:Array Edge} {gd:Option (Nat×Bool)} {gR:Ck} {x y z:Operand} {ti ei:TyI} {nm n:Nat} {es:List (List Int×C)} {a:List Int} {vk:AV}
theorem Bl {m:Nat} {g:Nat->D} (hg:GOK N ops σ gd gR) (hx:ev σ x=some (AD (.pt m g))) (hN:Nat.blt d N=true)
  (k:VR E ops dr rest (σ.set d (AD (.pt m g))) ((gR.map (·.1)++opK x,[.s d]) :: tr) K):VR E ops dr (⟨some d,.nilCheck x,ty,pos,af,gd⟩ :: rest) σ tr K:=
 E3 (v:=AD (.pt m g)) hg rfl hx hN (fun _ a w ρ Im _ h=>by
  obtain⟨b,o,he,h2⟩:=h;exact⟨_,by simp[execOp,he],⟨b,o,rfl,h2⟩⟩) (fun _ h=>h) k
theorem A9 {g:Nat->D} {m f fo ft:Nat} {fl:List (Nat×TypeId)} {fi:TyI} [ht:AT P t ti] (hg:GOK N ops σ gd gR) (hx:ev σ x=some (AD (.pt m g))) (hd:ti.k=.struct fl) (hf:fl[f]?=some (fo,ft))
  [hft:AT P ft fi] (hsz:Nat.blt 0 fi.size=true) (hN:Nat.blt d N=true)
  (k:VR E ops dr rest (σ.set d (.ep (fun j=>g (fo+j)) (m-fo))) ((gR.map (·.1)++opK x,[.s d]) :: tr) K):VR E ops dr (⟨some d,.fieldAddr t x f,ty,pos,af,gd⟩ :: rest) σ tr K:=
 E3 hg rfl hx hN (fun _ a w ρ Im _ h=>by
  obtain⟨b,o,he,hb,hc⟩:=h;refine⟨.pointer (some ⟨b,o+fo,none⟩),?_,b,o+fo,rfl,hb,fun j hj=>?_⟩
  ·obtain⟨fs,fd,hu,h1,rfl,rfl⟩:=ht.field hd hf;have hne:fi.size≠0:=by simp at hsz;omega
   simp[execOp,he,Instr.fieldAt,run_underlying hu,h1,Instr.sureAddr,fieldPlace,hft.Bx,hne,Addr.add_lit]
  ·have:=hc (fo+j) (by omega)
   rwa [<-Alf] at this) (fun _ h=>by cases h) k
theorem Jw {f:FuncId} {u:D} {cap:Operand} (hg:GOK N ops σ gd gR) (hx:ev σ cap=some (AD u)) (hN:Nat.blt d N=true)
  (k:VR E ops dr rest (σ.set d (AD (.fp f u))) ((gR.map (·.1)++opK cap,[.s d]) :: tr) K):VR E ops dr (⟨some d,.makeFunc (.func f) #[cap] #[],ty,pos,af,gd⟩ :: rest) σ tr K:=
 E3 (v:=AD (.fp f u)) hg rfl hx hN (fun _ ac w ρ Im _ h=>by
  have he:DT w Im u (ac.eval cap):=h;refine⟨.func (.func f) #[ac.eval cap] #[],?_,⟨_,rfl,he⟩⟩;simp[execOp,Instr.makeFunc]) (fun _ h=>by cases h) k
theorem Qe {f fo ft:Nat} {fl:List (Nat×TypeId)} {fi:TyI} {cs:List C} [ht:AT P t ti] (hg:GOK N ops σ gd gR) (hx:ev σ x=some (.agg cs)) (hd:ti.k=.struct fl) (hf:fl[f]?=some (fo,ft))
  [hft:AT P ft fi] (hagg:fi.isAgg=true) (hN:Nat.blt d N=true)
  (k:VR E ops dr rest (σ.set d (.agg ((cs.drop fo).take fi.size))) ((gR.map (·.1)++opK x,[.s d]) :: tr) K):VR E ops dr (⟨some d,.field t x f,ty,pos,af,gd⟩ :: rest) σ tr K:=
 E3 (v:=.agg ((cs.drop fo).take fi.size)) hg rfl hx hN (fun _ ac w ρ Im _ h=>by
  obtain⟨us,he,ha⟩:=h;obtain⟨fs,fd,hu,h1,rfl,rfl⟩:=ht.field hd hf;refine⟨.agg ((us.drop fd.offset).take fi.size).toArray,?_,_,rfl,DM ha fd.offset fi.size⟩;have e:us.toArray.extract fd.offset (fd.offset+fi.size)=((us.drop fd.offset).take fi.size).toArray:=by
   rw[List.extract_toArray]
   congr 1
   rw[List.extract_eq_take_drop]
   congr 1
   omega
  simp[execOp,he,Instr.field,run_underlying hu,h1,asAgg,part,hft.FG,hagg,hft.Bx,e]) (fun nm h=>by
  simp only[AV.mentions,AV.A3] at h ⊢;exact Jo (fun c hc=>Akz (Akj hc)) h) k
theorem XI {c:C} [ht:AT P t ti] [hk:NN P kt n] (hg:GOK N ops σ gd gR) (hx:ev σ x=some (.c (.mp nm))) (hb:σ (.b nm)=some (.k (.map es))) (hy:ev σ y=some vk) (ha:AgG vk=some a) (htk:ti.k=.map kt et)
  (hl:a.length=n) (hes:∀p∈es,p.1.length=n) (hz:ev σ z=some (.c c))
  (k:VR E ops dr rest (σ.upd (.b nm) (some (.k (.map (Li es a c))))) ((gR.map (·.1)++(opK x++(opK y++(opK z++[.b nm]))),[.b nm]) :: tr) K):
  VR E ops dr (⟨none,.insert t x y z,ty,pos,af,gd⟩ :: rest) σ tr K:=by
 refine EP (R:=opR x (.c (.mp nm))++(opR y vk++(opR z (.c c)++[(.b nm,some (.k (.map es)))]))) (U:=[(.b nm,some (.k (.map (Li es a c))))]) hg (fun σ' act w ρ Im hs hR Kk Q hK=>?_)
  (Ah (Bp hx) (Ah (Bp hy) (Ah (Bp hz) (by intro p hp;rw[AjI] at hp;subst hp;exact hb)))) (by simp[Akl,A4]) rfl k
 have hx':=Cb hx fun p hp=>hR p (AjA _ hp)
 have hy':=Cb hy fun p hp=>hR p (Ajz _ (AjA _ hp))
 have hz':=Cb hz fun p hp=>hR p (Ajz _ (Ajz _ (AjA _ hp)))
 have hb':σ' (.b nm)=some (.k (.map es)):=hR (.b nm,_) (by simp);have e1:act.eval x=.map (some (ρ nm).blk):=(B5 hs hx').1;have e2:act.eval y=kv a:=TL ha (B5 hs hy').1;obtain⟨e3,hmc⟩:=B5 hs hz';have e3:Cf ρ w Im c (act.eval z):=e3;obtain⟨hnil,arr,clock,hh,h2⟩:=hs.bk nm _ hb';have hck:=hk.check w false a hl;have hmen:∀q,(Blk.map (Li es a c)).mentions q=true->σ' (.b q)≠none:=fun q hq=>by
  simp only[Blk.mentions,AjM] at hq;obtain⟨p,hp,hm⟩:=hq;rcases Pa hp with hp|rfl
  ·exact hs.wf _ _ hb' q (by simp only[Item.mentions,Blk.mentions,AjM];exact⟨p,hp,hm⟩)
  ·exact hmc q hm
 have fin:∃arr' clock',(Instr.mapUpdate t (.map (some (ρ nm).blk)) (kv a) (act.eval z)).run P w=.ok () {w with heap:=w.heap.setIfInBounds (ρ nm).blk (.map arr' clock')} /\
   Bh (fun(p:List Int×C) (e:MapEntry)=>e.key=kv p.1/\Cf ρ w Im p.2 e.val) (Li es a c) arr'.toList:=by
  rcases Pj (P:=P) (a:=a) (kt:=kt) hl hes h2 with⟨h3,h4⟩|⟨i,e,c',h3,h4,h5,h6,h7,h8⟩
  ·refine⟨arr.push ⟨kv a,act.eval z,clock⟩,clock+1,?_,?_⟩
   ·simp[Instr.mapUpdate,run_underlying (ht.map htk),MapKept.run_getObj_map hh,hck,h4,MapKept.run_setObj_map _ hh,Result.andThen]
   ·rw[Mg h3,Array.toList_push];exact h2.append (.cons ⟨rfl,e3⟩ .nil)
  ·refine⟨arr.modify i (fun e'=>{e' with key:=kv a,val:=act.eval z}),clock,?_,?_⟩
   ·simp[Instr.mapUpdate,run_underlying (ht.map htk),MapKept.run_getObj_map hh,hck,h8,h4,h5,UJ,MapKept.run_setObj_map _ hh,Result.andThen]
   ·rw[Mf h3,Array.toList_modify,ChangeMaps.modify_eq_set _ _ _ _ (show arr.toList[i]?=some e by simpa using h4)];exact PO ⟨rfl,e3⟩ h2
 obtain⟨arr',clock',hrun,h2'⟩:=fin;obtain⟨s1,s2⟩:=MapKept.heap_set (o':=.map arr' clock') hh;unfold Oper.wp;have hrun':(execOp act.eval ⟨none,.insert t x y z,ty,pos,af,gd⟩).run P w=.ok .skip {w with heap:=w.heap.setIfInBounds (ρ nm).blk (.map arr' clock')}:=by
  simp only[execOp,e1,e2];rw[Sem.run_bind,hrun]
  rfl
 rw[hrun'];refine hK _ _ ⟨ρ,Im,hs.chg (w':={w with heap:=w.heap.setIfInBounds (ρ nm).blk (.map arr' clock')}) hb' rfl hnil rfl rfl rfl (by simp) (fun b hb=>s2 b hb) ⟨hnil,arr',clock',s1,h2'.imp fun p _ e h=>⟨h.1,?_⟩⟩ hmen⟩;exact Cf.Bo (fun b hb=>⟨hb,s2 b (fun e=>(hs.im b hb).2.2 nm _ hb' rfl hnil e.symm)⟩) (fun _ _=>rfl) h.2
theorem H2 {i:Int} {c:C} {es':List (List Int×C)} [ht:AT P t ti] [hk:NN P kt 1] (hg:GOK N ops σ gd gR) (hx:ev σ x=some (.c (.mp nm))) (hb:σ (.b nm)=some (.k (.map es))) (hy:ev σ y=some (AD (.int .i64 i))) (htk:ti.k=.map kt et)
  (hes:(es.all fun p=>Nat.beq p.1.length 1)=true) (hz:ev σ z=some (.c c)) (hp:Li es [i] c=es')
  (k:VR E ops dr rest (σ.upd (.b nm) (some (.k (.map es')))) ((gR.map (·.1)++(opK x++(opK y++(opK z++[.b nm]))),[.b nm]) :: tr) K):
  VR E ops dr (⟨none,.insert t x y z,ty,pos,af,gd⟩ :: rest) σ tr K:=by
 subst hp;exact XI (n:=1) hg hx hb hy rfl htk rfl (fun p hp=>by have:=AjL.1 hes p hp;simpa using this) hz k
theorem OJ {f:FuncId} {u:D} (hf:Afl P t=true) (hg:GOK N ops σ gd gR) (hx:ev σ x=some (AD (.fp f u))) (hN:Nat.blt d N=true)
  (k:VR E ops dr rest (σ.set d (AB false)) ((gR.map (·.1)++opK x,[.s d]) :: tr) K):VR E ops dr (⟨some d,.binOp .eql t x (.const .nilFunc) yt,ty,pos,af,gd⟩ :: rest) σ tr K:=
 E3 (v:=AB false) hg rfl hx hN (fun _ ac w ρ Im _ h=>by
  obtain⟨u',he,_⟩:=h;have h1:ac.eval (.const .nilFunc)=.nilFunc:=rfl;refine⟨.bool false,?_,rfl⟩;simp[execOp,he,h1,eqGuard,binOp,Wa hf]) (fun _ h=>by cases h) k
theorem LM {g:FuncId} {u:D} {y:Operand} {xs:List Operand} {ats:Array TypeId} {as cargs:List AV} {res:AV} {bo:List (Nat×Blk)} {U:Ck} (L:List Nat) (hF:FnS P g (AD u :: cargs) [] res bo) (hg:GOK N ops σ gd gR) (hy:ev σ y=some (AD (.fp g u))) (hxs:evL σ xs=some as)
  (hAR:Bh (AR P σ L) as cargs) (hfl:(L.isEmpty||(res.flat&&bo.all fun p=>p.2.flat))=true) (hpl:res.plain=true) (hwf:BC res bo=true)
  (hfresh:(bo.all fun p=>(σ (.b (1000*d+p.1))).isNone)=true) (hU:Fs (1000*d) bo=U) (hN:Nat.blt d N=true)
  (k:VR E ops dr rest ((σ.Cl U).set d (res.shift (1000*d)))
    ((gR.map (·.1)++(opK y++(Jf xs++(L.map Key.b++bo.map fun p=>Key.b (1000*d+p.1)))),U.map (·.1)++[.s d]) :: tr) K):
  VR E ops dr (⟨some d,.call ⟨.value y,xs.toArray,ats⟩,ty,pos,af,gd⟩ :: rest) σ tr K:=by
 subst hU;have hupds:∀(U V:Ck) (s:St),s.Cl (U++V)=(s.Cl U).Cl V:=by
  intro U V
  induction U with
  |nil=>intro s;rfl
  |cons p U ih=>intro s;exact ih _
 refine EP (R:=opR y (AD (.fp g u))++(TB xs as++(L.map (fun nm=>(.b nm,σ (.b nm)))++bo.map fun p=>(.b (1000*d+p.1),none)))) (U:=Fs (1000*d) bo++[(.s d,some (.v (res.shift (1000*d))))])
  (kr:=opK y++(Jf xs++(L.map Key.b++bo.map fun p=>Key.b (1000*d+p.1)))) (ku:=(Fs (1000*d) bo).map (·.1)++[.s d]) hg (fun σ' a w ρ Im hs hR K Q hK=>?_)
  (Ah (Bp hy) (Ah (FJ hxs) (Ah (fun p hp=>by obtain⟨nm,_,rfl⟩:=Aj5.1 hp;rfl) (fun p hp=>by
    obtain⟨q,hq,rfl⟩:=Aj5.1 hp;have:=AjL.1 hfresh q hq;simpa using this)))) (by simp[A4,Dx hxs,Akl,Function.comp_def]) (by simp) (by rw[hupds];exact k)
 obtain⟨u',hfv,hru⟩:=(B5 hs (Cb hy fun p hp=>hR p (AjA _ hp))).1;have h1:=Hm hxs fun p hp=>hR p (Ajz _ (AjA _ hp))
 have hL:∀nm∈L,σ' (.b nm)=σ (.b nm):=fun nm hnm=>hR (.b nm,σ (.b nm)) (Ajz _ (Ajz _ (AjA _ (Aj5.2 ⟨nm,hnm,rfl⟩))))
 have hfr:∀p∈bo,σ' (.b (1000*d+p.1))=none:=fun p hp=>hR (.b (1000*d+p.1),none) (Ajz _ (Ajz _ (Ajz _ (Aj5.2 ⟨p,hp,rfl⟩))))
 have hargs:=JX hs h1;have hcargs:Bh (Ca (⟨w,Bk σ' ρ Im L,fun _=>False⟩:Env P 0) ρ w (Bk σ' ρ Im L)) cargs (xs.map a.eval):=by
  have hAR':Bh (AR P σ' L) as cargs:=hAR.imp fun _ _ _ h=>h.of_same hL
  clear hAR h1 hxs hF k hR hy hfv;generalize xs.map a.eval=vs at hargs
  induction hAR' generalizing vs with
  |nil=>cases hargs;exact .nil
  |cons h1 _ ih=>cases hargs with
   |cons hr hargs=>exact .cons (h1.ok hs hr) (ih _ hargs)
 have hu:Ca (⟨w,Bk σ' ρ Im L,fun _=>False⟩:Env P 0) ρ w (Bk σ' ρ Im L) (AD u) u':=DT.Bo (w:=w) (fun b hb=>⟨.inl hb,rfl⟩) hru;obtain⟨hen,hcall⟩:=hF;have hc:=hcall w ρ (Bk σ' ρ Im L) (fun _=>False) (u' :: xs.map a.eval) (.cons hu hcargs) (DW (Ct hs));unfold Oper.wp;have hrun:(execOp a.eval ⟨some d,.call ⟨.value y,xs.toArray,ats⟩,ty,pos,af,gd⟩).run P w=.ok (.enter g (u' :: xs.map a.eval).toArray) w:=by
  have he:a.eval y=.func (.func g) #[u'] #[]:=hfv;simp only[execOp,resolve,Sem.run_bind,he,Deferred.ofValue,Sem.run_pure,Result.andThen_ok,invoke];have:(#[u']++(xs.toArray.map a.eval)++#[]:Array Value)=(u' :: xs.map a.eval).toArray:=by simp
  rw[this];exact hen _ _
 rw[hrun,Oper.upon_enter];refine hc.mono fun e w' ⟨v,ρ',Im',he,hm,hres,_⟩=>?_
 subst he;have hfl':(∀b,Bk σ' ρ Im L b->Im b)\/(res.flat=true/\bo.all (fun p=>p.2.flat)=true):=by
  simp only[Aks,AjE] at hfl;rcases hfl with hl|hl
  ·left
   intro b hb;have:L=[]:=by simpa using hl
   subst this;rcases hb with hb|⟨nm,hnm,_⟩
   ·exact hb
   ·cases hnm
  ·exact .inr hl
 obtain⟨ρ'',Im'',hs'',hr'',hm''⟩:=hs.after (k:=1000*d) hm hres hfl' hpl hwf hfr;refine hK _ _ ⟨ρ'',Im'',?_⟩;rw[hupds];exact hs''.put (by simpa using hN) hr'' hm''
end
end Go.Sx
namespace Go.Sx
def I8 {α:Type} (k:α->Int) (l:List α) (x:α) (i j:Nat):List α:=l.take i++x :: ((l.take j).drop i).filter fun a=>decide (k a≠k x)
theorem L0 {α:Type} {k:α->Int} {l:List α} {x:α} {i:Nat}:I8 k l x i i=l.take i++[x]:=by
 unfold I8;rw[List.drop_eq_nil_of_le (by rw[AjD];omega)];rfl
theorem Qv {α:Type} {k:α->Int} {l:List α} {x:α} {i j:Nat}:(I8 k l x i j).length<=l.length+1+l.length:=by
 unfold I8;have:=Aj4 (fun a=>decide (k a≠k x)) ((l.take j).drop i);rw[AjG,AjD] at this;rw[Ajy,AjD,Akx];omega
section
variable {α:Type} [Inhabited α]
theorem Kx {l:List α} {p:α->Bool} {i:Nat} (hi:i<=l.length) (h1:∀a,a<i->p (l.getD a default)=true) (h2:∀a,i<=a->a<l.length->p (l.getD a default)=false):l.filter p=l.take i:=by
 have e1:(l.take i).filter p=l.take i:=by
  rw[List.filter_eq_self];intro x hx;obtain⟨k,hk,rfl⟩:=AkG hx;rw[AjD] at hk;have:=h1 k (by omega);rw[List.getElem_take]
  rwa [Ajt,AjC (by omega)] at this
 have e2:(l.drop i).filter p=[]:=by
  rw[List.filter_eq_nil_iff];intro x hx;obtain⟨k,hk,rfl⟩:=AkG hx;rw[AjG] at hk;have:=h2 (i+k) (by omega) (by omega);rw[List.getElem_drop];rw[Ajt,AjC (by omega)] at this;simp only[AkH] at this;rw[this];simp
 conv=>lhs;rw[<-AjS i l,Akw]
 rw[e1,e2,AjQ]
theorem Oo {l:List α} {p:α->Bool} {i:Nat} (hi:i<=l.length) (h1:∀a,a<i->p (l.getD a default)=false) (h2:∀a,i<=a->a<l.length->p (l.getD a default)=true):l.filter p=l.drop i:=by
 have e1:(l.take i).filter p=[]:=by
  rw[List.filter_eq_nil_iff];intro x hx;obtain⟨k,hk,rfl⟩:=AkG hx;rw[AjD] at hk;have:=h1 k (by omega);rw[List.getElem_take];rw[Ajt,AjC (by omega)] at this;simp only[AkH] at this;rw[this];simp
 have e2:(l.drop i).filter p=l.drop i:=by
  rw[List.filter_eq_self];intro x hx;obtain⟨k,hk,rfl⟩:=AkG hx;rw[AjG] at hk;have:=h2 (i+k) (by omega) (by omega);rw[List.getElem_drop]
  rwa [Ajt,AjC (by omega)] at this
 conv=>lhs;rw[<-AjS i l,Akw]
 rw[e1,e2,Akp]
def OA (k:α->Int) (l:List α):Prop:=∀i j,i<j->j<l.length->k (l.getD i default)<k (l.getD j default)
theorem L6 {k:α->Int} {l:List α} (h:∀i,i<l.length->0<i->k (l.getD (i-1) default)<k (l.getD i default)):OA k l:=by
 intro i j hij
 induction j with
 |zero=>omega
 |succ j ih=>
  intro hj;have h1:=h (j+1) hj (by omega);rw[Nat.add_sub_cancel] at h1;rcases Akf i j with h2|h2
  ·have:=ih h2 (by omega);omega
  ·rw[show i=j by omega];exact h1
def GI (k:α->Int) (l:List α) (x:α):List α:=(l.filter fun a=>decide (k a<k x))++x :: l.filter fun a=>decide (k x<k a)
theorem OO {k:α->Int} {l:List α} {x:α} {i:Nat} (hi:i<=l.length) (h1:∀a,a<i->k (l.getD a default)<k x) (h2:∀a,i<=a->a<l.length->k x<k (l.getD a default)):GI k l x=BA l i x:=by
 unfold GI BA;rw[Kx hi (fun a ha=>Aju (h1 a ha)) (fun a ha hl=>Ajv (by have:=h2 a ha hl;omega)),
  Oo hi (fun a ha=>Ajv (by have:=h1 a ha;omega)) (fun a ha hl=>Aju (h2 a ha hl))]
theorem AaQ {k:α->Int} {l:List α} {x:α} {i:Nat} (hi:i<l.length) (hr:OA k l) (he:k (l.getD i default)=k x):GI k l x=l.set i x:=by
 have e1:(l.filter fun a=>decide (k a<k x))=l.take i:=by
  refine Kx (by omega) (fun a ha=>Aju ?_) (fun a ha hl=>Ajv ?_)
  ·have:=hr a i ha hi;omega
  ·rcases Akf i a with h|h
   ·have:=hr i a h hl;omega
   ·rw[show a=i by omega];omega
 have e2:(l.filter fun a=>decide (k x<k a))=l.drop (i+1):=by
  refine Oo (by omega) (fun a ha=>Ajv ?_) (fun a ha hl=>Aju ?_)
  ·rcases Akf a i with h|h
   ·have:=hr a i h hi;omega
   ·rw[show a=i by omega];omega
  ·have:=hr i a ha hl;omega
 unfold GI;rw[e1,e2];rw[List.set_eq_take_append_cons_drop,Akc hi]
theorem J0 {k:α->Int} {l:List α} (hr:OA k l) (v:Int):bs (fun i=>decide (k (l.getD i default)<v)) 0 l.length<=l.length /\
  (∀a,a<bs (fun i=>decide (k (l.getD i default)<v)) 0 l.length->k (l.getD a default)<v)/\∀a,bs (fun i=>decide (k (l.getD i default)<v)) 0 l.length<=a->a<l.length->v<=k (l.getD a default):=by
 obtain⟨h1,h2,h3⟩:=Aag (f:=fun i=>decide (k (l.getD i default)<v)) (n:=l.length) (fun a b hab hb hf=>by
  have h4:=hr a b hab hb;have h5:=AjT hf;exact Aju (by omega))
 refine⟨h1,fun a ha=>AjT (h2 a ha),fun a ha hl=>?_⟩;have:=AjU (h3 a ha hl);omega
def bsK (k:α->Int) (l:List α) (v:Int):Nat:=bs (fun i=>decide (k (l.getD i default)<v)) 0 l.length
def fdK (k:α->Int) (l:List α) (v:Int):Bool:=decide (bsK k l v<l.length)&&decide (k (l.getD (bsK k l v) default)=v)
theorem SQ {k:α->Int} {l:List α} {x:α} (hr:OA k l):GI k l x=if fdK k l (k x)=true then l.set (bsK k l (k x)) x else BA l (bsK k l (k x)) x:=by
 obtain⟨h1,h2,h3⟩:=J0 hr (k x)
 split
 ·rename_i h;simp only[fdK,AjE,Ajw] at h;exact AaQ h.1 hr h.2
 ·rename_i h;refine OO h1 h2 fun a ha hl=>?_
  have h4:=h3 a ha hl;rcases Akf (bsK k l (k x)) a with h5|h5
  ·have h6:=hr _ _ h5 hl;have h7:=h3 (bsK k l (k x)) (Akd _) (by omega);omega
  ·have h6:a=bsK k l (k x):=by
    have:bsK k l (k x)<=a:=ha;omega
   subst h6;have:¬k (l.getD (bsK k l (k x)) default)=k x:=fun e=>h (by simp only[fdK,AjE,Ajw];exact⟨hl,e⟩)
   omega
theorem AeP {k:α->Int} {l:List α} (hr:OA k l) (v:Int):fdK k l v=l.any fun a=>decide (k a=v):=by
 obtain⟨h1,h2,h3⟩:=J0 hr v;cases h:fdK k l v with
 |true=>
  simp only[fdK,AjE,Ajw] at h;refine(AjM.2 ⟨l.getD (bsK k l v) default,?_,Aju h.2⟩).symm;rw[Ajt,AjC h.1];exact AjZ _
 |false=>
  refine(AjN.2 fun x hx=>?_).symm;obtain⟨a,ha,rfl⟩:=AkG hx;have hg:l.getD a default=l[a]:=by rw[Ajt,AjC ha];rfl
  simp only[Ajw];intro e;rw[<-hg] at e;have h4:bsK k l v<=a:=Nat.le_of_not_lt fun h5=>by have:=h2 a h5;omega
  have h5:a=bsK k l v:=by
   rcases Akf (bsK k l v) a with h6|h6
   ·have h7:=hr _ _ h6 ha;have h8:=h3 (bsK k l v) (Akd _) (by omega);omega
   ·omega
  subst h5;simp only[fdK,Ala,Ajx] at h;rcases h with h|h
  ·exact h ha
  ·exact h e
theorem NV {k:α->Int} {l:List α} {x:α} {i j:Nat} (hij:i<=j) (hj:j<l.length):I8 k l x i (j+1)=I8 k l x i j++if k (l.getD j default)=k x then[] else[l.getD j default]:=by
 unfold I8;rw[Bq hj,List.drop_append_of_le_length (by rw[AjD];omega),Akw,AjP,Akt]
 congr 3
 split
 ·rename_i h;rw[AkA (by rw[Ajv (fun h2=>h2 h)];simp)];rfl
 ·rename_i h;rw[AkL (by rw[Aju h])];rfl
theorem Qw {k:α->Int} {l:List α} {x:α} {i:Nat} (hi:i<=l.length) (h1:∀a,a<i->k (l.getD a default)<k x) (h2:∀a,i<=a->a<l.length->k x<=k (l.getD a default)):I8 k l x i l.length=GI k l x:=by
 unfold I8 GI;rw[AkB];have e1:(l.filter fun a=>decide (k a<k x))=l.take i:=Kx hi (fun a ha=>Aju (h1 a ha)) (fun a ha hl=>Ajv (by have:=h2 a ha hl;omega));rw[e1]
 congr 2
 have e2:l.filter (fun a=>decide (k x<k a))=(l.drop i).filter (fun a=>decide (k x<k a)):=by
  conv=>lhs;rw[<-AjS i l,Akw]
  rw[List.filter_eq_nil_iff.2,Akp];intro a ha;obtain⟨b,hb,rfl⟩:=AkG ha;rw[AjD] at hb;have h3:=h1 b (by omega);rw[List.getElem_take];rw[Ajt,AjC (by omega)] at h3;simp only[AkH] at h3;simp only[Ajw];omega
 rw[e2];refine AkY fun a ha=>?_
 obtain⟨b,hb,rfl⟩:=AkG ha;rw[AjG] at hb;have h3:=h2 (i+b) (by omega) (by omega);rw[List.getElem_drop];rw[Ajt,AjC (by omega)] at h3;simp only[AkH] at h3;exact decide_eq_decide.2 (by omega)
theorem AaR {k:α->Int} {l:List α} {x:α} (hr:OA k l):(GI k l x).length=if fdK k l (k x)=true then l.length else l.length+1:=by
 rw[SQ hr]
 split
 ·simp
 ·have:=(J0 hr (k x)).1;have:bsK k l (k x)<=l.length:=this;simp[BA];omega
end
end Go.Sx
namespace Go.Sx
open Go Go.RowKit
theorem AgZ {a b:Nat} (ha:a<256) (hb:b<256):Ur .or .u8 a b=((a ||| b:Nat):Int):=by
 rw[KA];unfold AcQ;dsimp only;show IntKind.u8.wrap ((BitVec.ofInt 8 a ||| BitVec.ofInt 8 b).toNat:Int)=_;have h:a ||| b<2^8:=Nat.or_lt_two_pow ha hb;rw[BitVec.ofInt_natCast,BitVec.ofInt_natCast,BitVec.toNat_or,BitVec.toNat_ofNat,BitVec.toNat_ofNat,Ak8 (a:=a) (by omega),Ak8 (a:=b) (by omega),wrap_u8 (by omega)]
theorem Aan {a:Nat} (ha:a<2^64):Ur .and .u64 a 1=((a % 2:Nat):Int):=by
 rw[KA];unfold AcQ;dsimp only;show IntKind.u64.wrap ((BitVec.ofInt 64 a &&& BitVec.ofInt 64 ((1:Nat):Int)).toNat:Int)=_;rw[BitVec.ofInt_natCast,BitVec.ofInt_natCast,BitVec.toNat_and,BitVec.toNat_ofNat,BitVec.toNat_ofNat,Ak8 (a:=a) (by omega),Ak8 (a:=1) (by decide),Nat.and_one_is_mod,wrap_u64 (by omega)]
theorem AcB {k s b:Nat} (hb:b<2^s):2^s*k ||| b=2^s*k+b:=(Nat.two_pow_add_eq_or_of_lt hb k).symm
def Uq (b:Bool):Nat:=if b=true then 1 else 0
theorem Aai (b:Bool):Uq b<=1:=by cases b<;>decide
def vB (B:List Bool) (i:Nat):Nat:=Uq (B.getD i false)
theorem Qh (B:List Bool) (i:Nat):vB B i<=1:=Aai _
def II (B:List Bool) (q:Nat):Nat:=128*vB B (8*q)+64*vB B (8*q+1)+32*vB B (8*q+2)+16*vB B (8*q+3)+8*vB B (8*q+4)+4*vB B (8*q+5)+2*vB B (8*q+6)+vB B (8*q+7)
theorem Ab7 (B:List Bool) (q:Nat):II B q<256:=by
 have h0:=Qh B (8*q);have h1:=Qh B (8*q+1);have h2:=Qh B (8*q+2);have h3:=Qh B (8*q+3);have h4:=Qh B (8*q+4);have h5:=Qh B (8*q+5);have h6:=Qh B (8*q+6);have h7:=Qh B (8*q+7);unfold II;omega
def CD (B:List Bool):List Int:=(List.range ((B.length+7)/8)).map fun q=>(II B q:Int)
theorem Gt (B:List Bool):(CD B).length=(B.length+7)/8:=by simp[CD]
theorem QT {B:List Bool} {q:Nat} (h:q<(B.length+7)/8):(CD B).getD q default=(II B q:Int):=by
 rw[Ajt,CD,AkF,AkW h];rfl
theorem Ea {B:List Bool} {b:Bool} {i:Nat} (h:i<B.length):vB (B++[b]) i=vB B i:=by
 unfold vB;rw[Ajt,Ajt,Akv h]
theorem XQ {B:List Bool} {b:Bool}:vB (B++[b]) B.length=Uq b:=by
 unfold vB;rw[Ajt,AkE (Akd _),Ak2];rfl
theorem Nu {B:List Bool} {i:Nat} (h:B.length<=i):vB B i=0:=by
 unfold vB;rw[Ajt,Aj0 h];rfl
theorem XP {B:List Bool} {b:Bool} {i:Nat} (h:B.length<i):vB (B++[b]) i=0:=Nu (by rw[Ajy];show B.length+1<=i;omega)
theorem R0 {B:List Bool} {b:Bool} {q:Nat} (h:8*q+7<B.length):II (B++[b]) q=II B q:=by
 unfold II;rw[Ea (by omega),Ea (by omega),Ea (by omega),Ea (by omega),Ea (by omega),Ea (by omega),Ea (by omega),Ea (by omega)]
theorem Aad {B:List Bool} {b:Bool}:II (B++[b]) (B.length/8)=II B (B.length/8)+Uq b*2^(7-B.length % 8)/\2^(8-B.length % 8) ∣ II B (B.length/8):=by
 have hq:8*(B.length/8)+B.length % 8=B.length:=Nat.div_add_mod ..;have hm:B.length % 8<8:=Nat.mod_lt _ (by decide);generalize hQ:B.length/8=q at *;generalize hM:B.length % 8=m at *;have hv:∀j,vB (B++[b]) (8*q+j)=if j<m then vB B (8*q+j) else if j=m then Uq b else 0:=by
  intro j
  split
  ·exact Ea (by omega)
  ·split
   ·have:8*q+j=B.length:=by omega
    rw[this];exact XQ
   ·exact XP (by omega)
 have hz:∀j,m<=j->vB B (8*q+j)=0:=fun j hj=>Nu (by omega)
 have hv0:vB (B++[b]) (8*q)=if 0<m then vB B (8*q) else Uq b:=by
  have:=hv 0;rw[AkX] at this;rw[this]
  split
  ·rfl
  ·rw[Akc (by omega)]
 have hz0:m=0->vB B (8*q)=0:=fun h=>hz 0 (by omega)
 unfold II;rw[hv0,hv 1,hv 2,hv 3,hv 4,hv 5,hv 6,hv 7];have:m=0\/m=1\/m=2\/m=3\/m=4\/m=5\/m=6\/m=7:=by omega
 rcases this with rfl|rfl|rfl|rfl|rfl|rfl|rfl|rfl
 ·rw[hz0 rfl,hz 1 (by omega),hz 2 (by omega),hz 3 (by omega),hz 4 (by omega),hz 5 (by omega),hz 6 (by omega),hz 7 (by omega)];refine⟨by simp;omega,by simp⟩
 ·rw[hz 1 (by omega),hz 2 (by omega),hz 3 (by omega),hz 4 (by omega),hz 5 (by omega),hz 6 (by omega),hz 7 (by omega)];refine⟨by simp;omega,Ak0 (by omega)⟩
 ·rw[hz 2 (by omega),hz 3 (by omega),hz 4 (by omega),hz 5 (by omega),hz 6 (by omega),hz 7 (by omega)];refine⟨by simp;omega,Ak0 (by omega)⟩
 ·rw[hz 3 (by omega),hz 4 (by omega),hz 5 (by omega),hz 6 (by omega),hz 7 (by omega)];refine⟨by simp;omega,Ak0 (by omega)⟩
 ·rw[hz 4 (by omega),hz 5 (by omega),hz 6 (by omega),hz 7 (by omega)];refine⟨by simp;omega,Ak0 (by omega)⟩
 ·rw[hz 5 (by omega),hz 6 (by omega),hz 7 (by omega)];refine⟨by simp;omega,Ak0 (by omega)⟩
 ·rw[hz 6 (by omega),hz 7 (by omega)];refine⟨by simp;omega,Ak0 (by omega)⟩
 ·rw[hz 7 (by omega)];refine⟨by simp,Ak0 (by omega)⟩
def Kq (B:List Bool):List Int:=if B.length % 8=0 then CD B++[0] else CD B
theorem QU (B:List Bool):(Kq B).length=B.length/8+1:=by
 unfold Kq
 split
 ·rw[Ajy,Gt];show _+1=_;omega
 ·rw[Gt];omega
theorem QV {B:List Bool} {q:Nat} (h:q<=B.length/8):(Kq B).getD q default=(II B q:Int):=by
 unfold Kq
 split
 ·rename_i h8;rcases Akf q (B.length/8) with h1|h1
  ·rw[Ajt,Akv (by rw[Gt];omega),<-Ajt,QT (by omega)]
  ·have e:q=(CD B).length:=by rw[Gt];omega
   rw[e,Ajt,AkE (Akd _),Ak2];have:II B (CD B).length=0:=by
    unfold II;rw[<-e,Nu (by omega),Nu (by omega),Nu (by omega),Nu (by omega),Nu (by omega),Nu (by omega),Nu (by omega),Nu (by omega)]
   rw[this];rfl
 ·rw[QT (by omega)]
theorem Wz (B:List Bool) (b:Bool):(Kq B).set (B.length/8) (Ur .or .u8 ((Kq B).getD (B.length/8) default) ((Uq b*2^(7-B.length % 8):Nat):Int))=CD (B++[b]):=by
 obtain⟨h1,c,hc⟩:=Aad (B:=B) (b:=b);have hm:B.length % 8<8:=Nat.mod_lt _ (by decide);have hlt:=Ab7 B (B.length/8);have hb1:=Aai b;have hp:2^(7-B.length % 8)<=128:=Akn (Nat.pow_le_pow_right (by decide) (show 7-B.length % 8<=7 by omega)) (by decide);have hbl:Uq b*2^(7-B.length % 8)<2^(8-B.length % 8):=by
  have e:2^(8-B.length % 8)=2*2^(7-B.length % 8):=by
   rw[show 8-B.length % 8=(7-B.length % 8)+1 by omega,Nat.pow_succ,Nat.mul_comm]
  have hpos:0<2^(7-B.length % 8):=Nat.pow_pos (by decide);have:Uq b*2^(7-B.length % 8)<=1*2^(7-B.length % 8):=Ako _ hb1;omega
 have hb256:Uq b*2^(7-B.length % 8)<256:=by
  have:Uq b*2^(7-B.length % 8)<=1*2^(7-B.length % 8):=Ako _ hb1;omega
 have hor:Ur .or .u8 ((Kq B).getD (B.length/8) default) ((Uq b*2^(7-B.length % 8):Nat):Int)=(II (B++[b]) (B.length/8):Int):=by
  rw[QV (Akd _),AgZ hlt hb256,h1];rw[hc,AcB hbl]
 rw[hor]
 apply List.ext_getElem?
 intro i;have hl1:=QU B;have hl2:(CD (B++[b])).length=B.length/8+1:=by rw[Gt,Ajy];show(B.length+1+7)/8=_;omega
 rcases Akf i (B.length/8+1) with hi|hi
 ·have e2:(CD (B++[b]))[i]?=some (II (B++[b]) i:Int):=by
   rw[CD,AkF,AkW (by rw[Ajy];show i<(B.length+1+7)/8;omega)];rfl
  rw[e2,List.getElem?_set]
  split
  ·rename_i h;rw[<-h]
   first|rfl|(rw[Akc (by omega)])
  ·have hg:=QV (B:=B) (q:=i) (by omega);rw[Ajt,AjC (by omega)] at hg;rw[AjC (by omega)];rw[R0 (by omega)];exact congrArg some hg
 ·rw[Aj0 (by rw[AjJ];omega),Aj0 (by omega)]
def Ep (w n:Nat):List Bool:=(List.range w).map fun j=>decide (n/2^(w-1-j) % 2=1)
def J1 (w n k:Nat):List Bool:=(List.range k).map fun j=>decide (n/2^(w-1-j) % 2=1)
theorem Xs (w n k:Nat):J1 w n (k+1)=J1 w n k++[decide (n/2^(w-1-k) % 2=1)]:=by simp[J1,AkN]
theorem Aah (w n k:Nat):(J1 w n k).length=k:=by simp[J1]
theorem HU (w n:Nat):(Ep w n).length=w:=by simp[Ep]
theorem Acb (n:Nat):Uq (decide (n % 2=1))=n % 2:=by
 have h:n % 2<2:=Nat.mod_lt _ (by decide);unfold Uq;by_cases h1:n % 2=1
 ·rw[Akc (Aju h1),h1]
 ·rw[Akb (by simpa using h1)];omega
section
variable {d:Nat} {t kt et yt ty:TypeId} {pos:String} {af:Array Edge} {gd:Option (Nat×Bool)} {gR:Ck} {x y z:Operand} {ti ei:TyI} {nm n:Nat} {es:List (List Int×C)} {a:List Int} {vk:AV}
def PI (f:FuncId) (r:RI) (off:Nat):C:=.d (.raw (.func (.func f) #[.pointer (some ⟨r.blk,off,none⟩)] #[]))
theorem Qa {f:FuncId} {off pn:Nat} {r:RI} {cap:Operand} (hg:GOK N ops σ gd gR) (hx:ev σ cap=some (.c (.ptr nm off))) (hp:σ (.b pn)=some (.k (.pin nm r))) (hN:Nat.blt d N=true)
  (k:VR E ops dr rest (σ.set d (.c (PI f r off))) ((gR.map (·.1)++(opK cap++[.b pn]),[.s d]) :: tr) K):VR E ops dr (⟨some d,.makeFunc (.func f) #[cap] #[],ty,pos,af,gd⟩ :: rest) σ tr K:=by
 refine D2 (R:=opR cap (.c (.ptr nm off))++[(.b pn,some (.k (.pin nm r)))]) hg rfl hN (fun σ' a w ρ Im hs hR=>?_)
  (Ah (Bp hx) (by intro p hp';rw[AjI] at hp';subst hp';exact hp)) (by rw[Akl,A4];rfl) k
 have hx':=Cb hx fun p hp=>hR p (AjA _ hp)
 have hp':σ' (.b pn)=some (.k (.pin nm r)):=hR (.b pn,_) (by simp);have he:a.eval cap=.pointer (some ⟨(ρ nm).blk,off,none⟩):=(B5 hs hx').1;have hr:ρ nm=r:=hs.bk pn _ hp';rw[hr] at he;refine⟨.func (.func f) #[.pointer (some ⟨r.blk,off,none⟩)] #[],?_,⟨rfl,rfl⟩,fun q hq=>by cases hq⟩;simp[execOp,Instr.makeFunc,he]
theorem Acr {c:Code} {Q:Exit->St->Prop} {pn:Nat} (hn:σ (.b nm)≠none) (hf:σ (.b pn)=none) (k:∀r:RI,VC E c Q (σ.upd (.b pn) (some (.k (.pin nm r))))):VC E c Q σ:=by
 intro a w hs;obtain⟨ρ,Im,h⟩:=hs;have hne:pn≠nm:=fun e=>hn (e▸hf)
 have hk:∀n b,(σ.upd (.b pn) (some (.k (.pin nm (ρ nm))))) (.b n)=some (.k b)->(n=pn/\b=.pin nm (ρ nm))\/σ (.b n)=some (.k b):=fun n b hb=>by
  by_cases e:pn=n
  ·subst e;rw[St.AM] at hb;injection hb with hb;injection hb with hb
   exact .inl ⟨rfl,hb.symm⟩
  ·rw[St.At _ _ (by intro h2;injection h2 with h2;exact e h2)] at hb;exact .inr hb
 refine k (ρ nm) a w ⟨ρ,Im,fun q v hv=>h.fr q v (by rwa [St.At _ _ (by intro e;cases e)] at hv),fun n b hb=>?_,fun n b hb hl=>?_,fun n1 n2 b1 b2 e1 e2 l1 l2=>?_,fun c hc=>⟨(h.im c hc).1,(h.im c hc).2.1,fun n b hb hl=>?_⟩,fun kk it hit n hn'=>?_,h.defers,h.size,h.Bo⟩
 ·rcases hk n b hb with⟨_,rfl⟩|hb
  ·exact rfl
  ·exact h.bk n b hb
 ·rcases hk n b hb with⟨_,rfl⟩|hb
  ·cases hl
  ·exact h.own n b hb hl
 ·rcases hk _ _ e1 with⟨_,rfl⟩|e1
  ·cases l1
  ·rcases hk _ _ e2 with⟨_,rfl⟩|e2
   ·cases l2
   ·exact h.inj _ _ _ _ e1 e2 l1 l2
 ·rcases hk n b hb with⟨_,rfl⟩|hb
  ·cases hl
  ·exact(h.im c hc).2.2 n b hb hl
 ·have Bo:∀q,σ (.b q)≠none->(σ.upd (.b pn) (some (.k (.pin nm (ρ nm))))) (.b q)≠none:=fun q hq=>by
   rw[St.At _ _ (by intro e;injection e with e;exact hq (e▸hf))];exact hq
  by_cases e:(Key.b pn)=kk
  ·subst e;rw[St.AM] at hit;injection hit with hit;subst hit
   have:nm=n:=by simpa [Item.mentions,Blk.mentions] using hn'
   subst this;exact Bo _ hn
  ·rw[St.At _ _ e] at hit;exact Bo n (h.wf kk it hit n hn')
end
def Xd:Nat->List (List C)->List (Nat×Blk)
 |_,[]=>[]
 |b,cs :: X=>(b,.box cs) :: Xd (b+1) X
theorem ZQ:∀{b n:Nat} {X:List (List C)},n<b->As (Xd b X) n=none
 |_,_,[],_=>rfl
 |b,n,cs :: X,h=>by
  simp only[Xd,As];have hne:Nat.beq b n=false:=by
   cases hb:Nat.beq b n with
   |false=>rfl
   |true=>have:b=n:=by simpa using hb
          omega
  rw[hne];exact ZQ (by omega)
theorem Ua:∀{b n:Nat} {X:List (List C)},b+X.length<=n->As (Xd b X) n=none
 |_,_,[],_=>rfl
 |b,n,cs :: X,h=>by
  simp only[Akx] at h;simp only[Xd,As];have hne:Nat.beq b n=false:=by
   cases hb:Nat.beq b n with
   |false=>rfl
   |true=>have:b=n:=by simpa using hb
          omega
  rw[hne];exact Ua (by omega)
theorem Ub:∀{b i:Nat} {X:List (List C)},i<X.length->As (Xd b X) (b+i)=some (.box (X.getD i []))
 |_,_,[],h=>by simp at h
 |b,0,cs :: X,_=>by
  have:Nat.beq b b=true:=by simp
  simp[Xd,As]
 |b,i+1,cs :: X,h=>by
  simp only[Akx] at h;simp only[Xd,As];have hne:Nat.beq b (b+(i+1))=false:=by
   cases hb:Nat.beq b (b+(i+1)) with
   |false=>rfl
   |true=>have:b=b+(i+1):=Aki hb
          omega
  rw[hne,show b+(i+1)=(b+1)+i by omega];show As (Xd (b+1) X) (b+1+i)=_;rw[Ub (by omega)];simp
theorem ZP {b n:Nat} {X:List (List C)} {x:Blk} (h:As (Xd b X) n=some x):∃i,i<X.length/\n=b+i/\x=.box (X.getD i []):=by
 rcases Akf n b with h1|h1
 ·rw[ZQ h1] at h;cases h
 ·rcases Akf (n-b) X.length with h2|h2
  ·have:=Ub (b:=b) h2;rw[show b+(n-b)=n by omega] at this;rw[this] at h;injection h with h
   exact⟨n-b,h2,by omega,h.symm⟩
  ·rw[Ua (by omega)] at h;cases h
theorem Vt:∀{b:Nat} {X:List (List C)} {p:Nat×Blk},p∈Xd b X->∃i,i<X.length/\p=(b+i,.box (X.getD i []))
 |_,[],_,h=>by cases h
 |b,cs :: X,p,h=>by
  rcases AjO.1 h with h|h
  ·exact⟨0,by simp,by rw[h];simp⟩
  ·obtain⟨i,hi,e⟩:=Vt h;exact⟨i+1,by simp;omega,by rw[e];simp;omega⟩
section
variable {P:Program} {N:Nat} {E:Env P N} {σ:St}
theorem Y9 {l:List (Nat×AV)} {b:List (Nat×Blk)} (f:Nat->Nat) (hl:WY σ f [] l) (hb:∀n x,As b n=some x->∃y,σ (.b (f n))=some (.k y)/\BW σ f [] y x)
  (hi:∀n m,(As b n).isSome=true->(As b m).isSome=true->n≠m->f n≠f m) (hwf:wfL l b=true):Le E σ (AN l b):=by
 intro a w ⟨ρ,Im,h⟩;have hsb:∀n x,AN l b (.b n)=some (.k x)->As b n=some x:=fun n x hx=>by
  simp only[AN,Akh] at hx;obtain⟨y,hy,e⟩:=hx;injection e with e;subst e
  exact hy
 refine⟨fun n=>ρ (f n),Bk σ ρ Im [],fun t x hx=>?_,fun n x hx=>?_,fun n x hx hlv hn=>?_,fun n1 n2 b1 b2 h1 h2 l1 l2 i1 i2 hne=>?_,
  fun c hc=>⟨?_,Ct h c hc,fun n x hx hlv hn=>?_⟩,I7 hwf,h.defers,h.size,h.Bo⟩
 ·simp only[AN,Akh] at hx;obtain⟨y,hy,e⟩:=hx;injection e with e;subst e
  obtain⟨z,hz,hw⟩:=Gy hl hy;exact hw.ok h (h.fr t z hz)
 ·obtain⟨z,hz,hw⟩:=hb n x (hsb n x hx);exact hw.ok h (h.bk _ z hz)
 ·obtain⟨z,hz,hw⟩:=hb n x (hsb n x hx);exact h.own _ z hz (hw.live hlv) hn
 ·obtain⟨z1,hz1,hw1⟩:=hb _ _ (hsb _ _ h1);obtain⟨z2,hz2,hw2⟩:=hb _ _ (hsb _ _ h2);exact h.inj _ _ z1 z2 hz1 hz2 (hw1.live l1) (hw2.live l2) i1 i2 (hi _ _ (by rw[hsb _ _ h1];rfl) (by rw[hsb _ _ h2];rfl) hne)
 ·rcases hc with hc|⟨nm,hnm,_⟩
  ·exact(h.im c hc).1
  ·cases hnm
 ·obtain⟨z,hz,hw⟩:=hb n x (hsb n x hx);rcases hc with hc|⟨nm,hnm,_⟩
  ·exact(h.im c hc).2.2 _ z hz (hw.live hlv) hn
  ·cases hnm
theorem Afv {l:List (Nat×AV)} {b:List (Nat×Blk)} (h1:∀p∈l,p.2.shallow=true/\∀n∈p.2.names,(As b n).isSome=true) (h2:∀p∈b,∀n∈p.2.names,(As b n).isSome=true):wfL l b=true:=by
 simp only[wfL,AjE,AjL];exact⟨fun p hp=>⟨(h1 p hp).1,(h1 p hp).2⟩,h2⟩
end
abbrev pvo (b o:Nat):Value:=.pointer (some ⟨b,o,none⟩)
section
variable {d:Nat} {t yt ty:TypeId} {pos:String} {af:Array Edge} {gd:Option (Nat×Bool)} {gR:Ck} {x y:Operand} {ti:TyI}
theorem Dv {b o:Nat} (hg:GOK N ops σ gd gR) (hx:ev σ x=some (AD (.raw (pvo b o)))) (hN:Nat.blt d N=true)
  (k:VR E ops dr rest (σ.set d (AD (.raw (pvo b o)))) ((gR.map (·.1)++opK x,[.s d]) :: tr) K):VR E ops dr (⟨some d,.nilCheck x,ty,pos,af,gd⟩ :: rest) σ tr K:=
 E3 (v:=AD (.raw (pvo b o))) hg rfl hx hN (fun _ a w ρ Im _ h=>by
  have he:a.eval x=pvo b o:=h.1;exact⟨pvo b o,by simp[execOp,he],rfl,rfl⟩) (fun _ h=>by cases h) k
theorem Dg {b o f fo ft:Nat} {fl:List (Nat×TypeId)} {fi:TyI} [ht:AT P t ti] (hg:GOK N ops σ gd gR) (hx:ev σ x=some (AD (.raw (pvo b o)))) (hd:ti.k=.struct fl) (hf:fl[f]?=some (fo,ft))
  [hft:AT P ft fi] (hsz:Nat.blt 0 fi.size=true) (hN:Nat.blt d N=true)
  (k:VR E ops dr rest (σ.set d (AD (.raw (pvo b (o+fo))))) ((gR.map (·.1)++opK x,[.s d]) :: tr) K):VR E ops dr (⟨some d,.fieldAddr t x f,ty,pos,af,gd⟩ :: rest) σ tr K:=
 E3 (v:=AD (.raw (pvo b (o+fo)))) hg rfl hx hN (fun _ a w ρ Im _ h=>by
  have he:a.eval x=pvo b o:=h.1;refine⟨pvo b (o+fo),?_,rfl,rfl⟩;obtain⟨fs,fd,hu,h1,rfl,rfl⟩:=ht.field hd hf;have hne:fi.size≠0:=by simp at hsz;omega
  simp[execOp,he,Instr.fieldAt,run_underlying hu,h1,Instr.sureAddr,fieldPlace,hft.Bx,hne,Addr.add_lit]) (fun _ h=>by cases h) k
theorem AT.ptr {e:TypeId} (h:AT P t ti) (hk:ti.k=.pointer e):P.underlying t=some (.pointer e):=by
 obtain⟨d,hd,hf⟩:=h.desc;rw[hk] at hf;cases d<;>first|(simp only[TK.fits] at hf;rw[hd,Aki hf])|cases hf
theorem S4 {w:World} {e:TypeId} {ei:TyI} (ht:AT P t ti) (hk:ti.k=.pointer e) (he:AT P e ei) (hsz:Nat.blt 0 ei.size=true) (b b':Nat) (hb:∃ca ta,w.heap[b]?=some (.cells ca ta (0,0))) (hb':∃ca ta,w.heap[b']?=some (.cells ca ta (0,0))):
  (Op.equal t (pvo b 0) (pvo b' 0)).run P w=.ok (decide (b=b')) w:=by
 have h:=ht.ptr hk;have hne:ei.size≠0:=by simp at hsz;omega
 obtain⟨ca,ta,h1⟩:=hb;obtain⟨cb,tb,h2⟩:=hb';unfold Op.equal Op.equalIn Op.maxDepth;by_cases hbb:b=b'
 ·subst hbb;simp[run_underlying h,he.Bx,hne,run_sameAddr_same]
 ·have:=run_sameAddr_other (P:=P) w (a:=⟨b,0,none⟩) (b:=⟨b',0,none⟩) (by intro e;injection e with e;exact hbb e) h1 h2;simp[run_underlying h,he.Bx,hne,this,hbb]
def So (E:Env P N) (b:Nat):Prop:=(∃ca ta,E.w0.heap[b]?=some (.cells ca ta (0,0)))/\b<E.w0.heap.size/\¬E.S0 b
theorem So.at' {b:Nat} {w:World} (h:So E b) (hk:IL E.w0 E.S0 w):∃ca ta,w.heap[b]?=some (.cells ca ta (0,0)):=by
 obtain⟨⟨ca,ta,h1⟩,h2,h3⟩:=h;exact⟨ca,ta,(hk.block b h2 h3).trans h1⟩
theorem Hv {b b':Nat} {e:TypeId} {ei:TyI} [ht:AT P t ti] [he:AT P e ei] (hg:GOK N ops σ gd gR) (hx:ev σ x=some (AD (.raw (pvo b 0)))) (hy:ev σ y=some (AD (.raw (pvo b' 0)))) (hk:ti.k=.pointer e) (hsz:Nat.blt 0 ei.size=true) (hb:So E b) (hb':So E b') (hN:Nat.blt d N=true)
  (k:VR E ops dr rest (σ.set d (AB (!decide (b=b')))) ((gR.map (·.1)++(opK x++opK y),[.s d]) :: tr) K):VR E ops dr (⟨some d,.binOp .neq t x y yt,ty,pos,af,gd⟩ :: rest) σ tr K:=by
 refine EP (R:=opR x (AD (.raw (pvo b 0)))++opR y (AD (.raw (pvo b' 0)))) (U:=[(.s d,some (.v (AB (!decide (b=b')))))]) hg (fun σ a w ρ Im hs hR K Q hK=>?_) (Ah (Bp hx) (Bp hy)) (by rw[Akl,A4,A4]) rfl k;have hx':=Cb hx fun p hp=>hR p (AjA _ hp)
 have hy':=Cb hy fun p hp=>hR p (Ajz _ hp)
 have he1:a.eval x=pvo b 0:=(B5 hs hx').1.1;have he2:a.eval y=pvo b' 0:=(B5 hs hy').1.1;unfold Oper.wp;have hrun:(execOp a.eval ⟨some d,.binOp .neq t x y yt,ty,pos,af,gd⟩).run P w=.ok (.value (.bool (!decide (b=b')))) w:=by
  simp[execOp,he1,he2,eqGuard,binOp,S4 ht hk he hsz b b' (hb.at' hs.Bo) (hb'.at' hs.Bo)]
 rw[hrun];exact hK _ _ ⟨ρ,Im,hs.put (by simpa using hN) rfl (fun nm hn=>by cases hn)⟩
theorem Rf {nm pn off s:Nat} {r:RI} (hx:σ (.s s)=some (.v (AD (.raw (pvo r.blk off))))) (hp:σ (.b pn)=some (.k (.pin nm r))):Le E σ (σ.set s (.c (.ptr nm off))):=by
 rintro ac w ⟨ρ,Im,h⟩;have hr:=h.fr s _ hx;have hr:ac.tmps.getD s undef=pvo r.blk off:=hr.1;have hpin:ρ nm=r:=h.bk pn _ hp;have hnm:σ (.b nm)≠none:=h.wf _ _ hp nm (by simp[Item.mentions,Blk.mentions]);refine⟨ρ,Im,fun q v hv=>?_,fun n b hb=>h.bk n b (by rwa [St.set,St.At _ _ (by intro e;cases e)] at hb),fun n b hb=>h.own n b (by rwa [St.set,St.At _ _ (by intro e;cases e)] at hb),
  fun n1 n2 b1 b2 h1 h2=>h.inj n1 n2 b1 b2 (by rwa [St.set,St.At _ _ (by intro e;cases e)] at h1) (by rwa [St.set,St.At _ _ (by intro e;cases e)] at h2),
  fun b hb=>⟨(h.im b hb).1,(h.im b hb).2.1,fun n bk hk=>(h.im b hb).2.2 n bk (by rwa [St.set,St.At _ _ (by intro e;cases e)] at hk)⟩,fun k it hk n hn=>?_,h.defers,h.size,h.Bo⟩
 ·by_cases e:s=q
  ·subst e;rw[St.set,St.AM] at hv;injection hv with hv;injection hv with hv;subst hv
   show Cf ρ w Im (.ptr nm off) _;simp only[Cf];rw[hr,hpin]
  ·rw[St.set,St.At _ _ (by intro h2;injection h2 with h2;exact e h2)] at hv;exact h.fr q v hv
 ·rw[St.set,St.At _ _ (by intro e;cases e)];by_cases e:(Key.s s)=k
  ·subst e;rw[St.set,St.AM] at hk;injection hk with hk;subst hk
   have:nm=n:=by simpa [Item.mentions,AV.mentions,AV.A3,C.mentions] using hn
   subst this;exact hnm
  ·rw[St.set,St.At _ _ e] at hk;exact h.wf k it hk n hn
theorem Aby {nm pn q T off:Nat} {r:RI} {xs:List (List C)} (hx:σ (.b q)=some (.k (.row T 1 (xs++[[.ptr nm off]])))) (hp:σ (.b pn)=some (.k (.pin nm r))):Le E σ (σ.upd (.b q) (some (.k (.row T 1 (xs++[[.d (.raw (pvo r.blk off))]]))))):=by
 rintro ac w ⟨ρ,Im,h⟩;have hpin:ρ nm=r:=h.bk pn _ hp;have hold:=h.bk q _ hx;have hq:∀n b,(σ.upd (.b q) (some (.k (.row T 1 (xs++[[.d (.raw (pvo r.blk off))]]))))) (.b n)=some (.k b)->(n=q/\b=.row T 1 (xs++[[.d (.raw (pvo r.blk off))]]))\/(n≠q/\σ (.b n)=some (.k b)):=fun n b hb=>by
  by_cases e:q=n
  ·subst e;rw[St.AM] at hb;injection hb with hb;injection hb with hb
   exact .inl ⟨rfl,hb.symm⟩
  ·rw[St.At _ _ (by intro h2;injection h2 with h2;exact e h2)] at hb;exact .inr ⟨Ne.symm e,hb⟩
 have hany:∀n b,(σ.upd (.b q) (some (.k (.row T 1 (xs++[[.d (.raw (pvo r.blk off))]]))))) (.b n)=some (.k b)->∃b',σ (.b n)=some (.k b')/\(b.live=true->b'.live=true):=fun n b hb=>by
  rcases hq n b hb with⟨rfl,rfl⟩|⟨_,hb⟩
  ·exact⟨_,hx,fun _=>rfl⟩
  ·exact⟨_,hb,fun h=>h⟩
 refine⟨ρ,Im,fun s v hv=>h.fr s v (by rwa [St.At _ _ (by intro e;cases e)] at hv),fun n b hb=>?_,fun n b hb hl hn=>?_,fun n1 n2 b1 b2 e1 e2 l1 l2 i1 i2 hne=>?_,fun c hc=>⟨(h.im c hc).1,(h.im c hc).2.1,fun n b hb hl hn=>?_⟩,fun kk it hit n hn=>?_,h.defers,h.size,h.Bo⟩
 ·rcases hq n b hb with⟨rfl,rfl⟩|⟨_,hb⟩
  ·unfold BQ at hold ⊢;cases hnil:(ρ n).isNil with
   |true=>simp[hnil] at hold
   |false=>
    simp only[hnil,Akr,if_false] at hold ⊢;obtain⟨us,spare,h1,h2,h3,h4,h5,h6⟩:=hold;refine⟨us,spare,h1,?_,?_,h4,by simpa using h5,h6⟩
    ·rw[List.flatten_append] at h2 ⊢;have key:∀{l:List C} {us:List Value},Bh (Cf ρ w Im) (l++[.ptr nm off]) us->Bh (Cf ρ w Im) (l++[.d (.raw (pvo r.blk off))]) us:=by
      intro l
      induction l with
      |nil=>
       intro us h;cases h with
       |cons h1 h2=>
        cases h2;refine .cons ?_ .nil;have e:_=pvo (ρ nm).blk off:=h1;rw[hpin] at e;exact⟨e,rfl⟩
      |cons c l ih=>
       intro us h;cases h with
       |cons h1 h2=>exact .cons h1 (ih h2)
     exact key h2
    ·intro x hx2;rcases List.mem_append.1 hx2 with hx2|hx2
     ·exact h3 x (AjA _ hx2)
     ·rw[AjI] at hx2;subst hx2;exact h3 [.ptr nm off] (by simp)
  ·exact h.bk n b hb
 ·obtain⟨b',hb',hl'⟩:=hany n b hb;exact h.own n b' hb' (hl' hl) hn
 ·obtain⟨b1',hb1,hl1⟩:=hany _ _ e1;obtain⟨b2',hb2,hl2⟩:=hany _ _ e2;exact h.inj _ _ _ _ hb1 hb2 (hl1 l1) (hl2 l2) i1 i2 hne
 ·obtain⟨b',hb',hl'⟩:=hany n b hb;exact(h.im c hc).2.2 n b' hb' (hl' hl) hn
 ·have Bo:∀m,σ (.b m)≠none->(σ.upd (.b q) (some (.k (.row T 1 (xs++[[.d (.raw (pvo r.blk off))]]))))) (.b m)≠none:=fun m hm=>by
   by_cases e:q=m
   ·subst e;rw[St.AM];simp
   ·rw[St.At _ _ (by intro h2;injection h2 with h2;exact e h2)];exact hm
  by_cases e:(Key.b q)=kk
  ·subst e;rw[St.AM] at hit;injection hit with hit;subst hit
   refine Bo n (h.wf _ _ hx n ?_);simp only[Item.mentions,Blk.mentions,List.any_append,Aks] at hn ⊢;rcases hn with hn|hn
   ·exact .inl hn
   ·simp[C.mentions] at hn
  ·rw[St.At _ _ e] at hit;exact Bo n (h.wf kk it hit n hn)
end
def AiH {P:Program} {N:Nat} (E:Env P N) (bin:List (Nat×Blk)):Prop:=∀c,E.S0 c->∃p∈bin,∃n r,p.2=.pin n r/\r.isNil=false/\c=r.blk
theorem FnS.Abr {P:Program} {f:FuncId} {fn:Func} {c:Code} {N:Nat} {args:List AV} {bin:List (Nat×Blk)} {res:AV} {bout:List (Nat×Blk)} {rs:List ResultVar}
  (hen:Enters P f) (hf:P.funcs[f]?=some fn) (hb:fn.body=some c) (hnt:fn.ntmps=N) (hrs:fn.results=rs.toArray) (hlen:Nat.ble args.length N=true) (hwf:Bj args bin=true)
  (hnc:res.Pe=true) (hac:args.all AV.Pe=true) (hpin:(bin.all fun p=>!p.2.live||bin.any fun q=>match q.2 with|.pin n _=>Nat.beq n p.1&&(As bin q.1).isSome|_=>false)=true) (hnd:∀p∈bin,As bin p.1=some p.2)
  (h:∀E:Env P N,AiH E bin->VC E c (Gk P rs res bout) (D9 args bin)):FnS P f args bin res bout:=by
 refine⟨hen,fun w ρ Im S0 vs hargs hmem=>?_⟩;obtain⟨S,hS⟩:∃S:Nat->Prop,S=fun c=>∃p∈bin,∃n r,p.2=.pin n r/\r.isNil=false/\c=r.blk/\S0 c:=⟨_,rfl⟩
 have hst0:∀n b,AN [] bin (.b n)=some (.k b)->As bin n=some b:=fun n x hx=>by
  simp only[AN,Akh] at hx;obtain⟨y,hy,e⟩:=hx;injection e with e;subst e
  exact hy
 have hSS:∀c,S c->S0 c:=fun c hc=>by
  rw[hS] at hc;obtain⟨_,_,_,_,_,_,_,h⟩:=hc;exact h
 have hS0:∀n b,As bin n=some b->b.live=true->(ρ n).isNil=false->S (ρ n).blk:=fun n b hx hl hn=>by
  have ho:=hmem.own n b (by simp[AN,hx]) hl hn;have hs0:S0 (ρ n).blk:=by
   rcases ho.2 with h1|h1
   ·exact h1
   ·have h1:w.heap.size<=_:=h1;omega
  have:=AjL.1 hpin _ (AP hx);rw[hl] at this;simp only[Bool.not_true,Bool.false_or,AjM] at this;obtain⟨q,hq,hq2⟩:=this;obtain⟨qn,qb⟩:=q;cases qb with
  |pin m r=>
   simp only[AjE] at hq2;have e:m=n:=Aki hq2.1;subst e;have hlq:As bin qn=some (.pin m r):=hnd _ hq;have hr:ρ m=r:=hmem.bk qn (.pin m r) (by simp[AN,hlq]);rw[hS];exact⟨_,hq,m,r,rfl,by rw[<-hr];exact hn,by rw[<-hr],hs0⟩
  |_=>simp at hq2
 have hmem1:F1 (⟨w,Im,S⟩:Env P 0) (AN [] bin) w ρ Im:=
  ⟨hmem.bk,fun n b hx hl hn=>⟨(hmem.own n b hx hl hn).1,.inl (hS0 n b (hst0 n b hx) hl hn)⟩,hmem.inj,hmem.im,IL.refl _ _⟩
 have key:∀args':List AV,(args'.all AV.Pe=true)->∀vs':List Value,Bh (Ca (⟨w,Im,S0⟩:Env P 0) ρ w Im) args' vs'->Bh (Ca (⟨w,Im,S⟩:Env P 0) ρ w Im) args' vs':=by
  intro args' ha vs' h;exact h.imp fun a hm v hr=>Ca.AgR (AjL.1 ha a hm) hr
 have hargs1:=key args hac vs hargs;refine calls_of_wp hf hb ?_;have hl:vs.length=args.length:=hargs.length.symm;have hle:args.length<=N:=by simpa using hlen
 have hsat:A8 (⟨w,Im,S⟩:Env P N) (D9 args bin) {tmps:=vs.toArray++Array.replicate (fn.ntmps-vs.toArray.size) undef,defers:=[]} w ρ Im:=by
  have hbs:∀nm b,D9 args bin (.b nm)=some (.k b)->AN [] bin (.b nm)=some (.k b):=fun nm b hb=>hb
  refine⟨fun t x hx=>?_,fun nm b hb=>hmem1.bk nm b (hbs nm b hb),fun nm b hb=>hmem1.own nm b (hbs nm b hb),fun n1 n2 b1 b2 h1 h2=>hmem1.inj n1 n2 b1 b2 (hbs _ _ h1) (hbs _ _ h2),
   fun b hb=>⟨(hmem1.im b hb).1,(hmem1.im b hb).2.1,fun nm bk hk=>(hmem1.im b hb).2.2 nm bk (hbs _ _ hk)⟩,LD hwf,rfl,by simp[hnt];omega,hmem1.Bo⟩
  simp only[D9,Akh] at hx;obtain⟨y,hy,he⟩:=hx;injection he with he
  subst he;obtain⟨u,hu,hr⟩:=hargs1.get hy;have ht:t<vs.length:=(Akg.1 hu).1;have:(vs.toArray++Array.replicate (fn.ntmps-vs.toArray.size) undef).getD t undef=u:=by
   rw[Array.getD_eq_getD_getElem?,Array.getElem?_append_left (by simpa using ht)];simp[hu]
  rw[this];exact Ca.env rfl rfl hr
 have hO:AiH (⟨w,Im,S⟩:Env P N) bin:=fun c hc=>by
  have hc:S c:=hc;rw[hS] at hc;obtain⟨p,hp,n,r,h1,h2,h3,_⟩:=hc;exact⟨p,hp,n,r,h1,h2,h3⟩
 refine wp_mono (h _ hO _ w ⟨ρ,Im,hsat⟩) fun e a' w' ⟨σ',⟨ρ',Im',hs'⟩,he,xs,hres,hx,hbo⟩=>?_
 obtain⟨v,hv1,hv2⟩:=hres.results hs' hrs;have hfin:a'.defers=[]/\∃v,(results fn a'.tmps).run P w'=.ok v w'/\∃v' ρ' Im',Ending.returned v=.returned v'/\F1 (⟨w,Im,S0⟩:Env P 0) (AN [] bout) w' ρ' Im'/\Ca (⟨w,Im,S0⟩:Env P 0) ρ' w' Im' res v' /\
   True:=by
  have hst:∀nm b,AN [] bout (.b nm)=some (.k b)->σ' (.b nm)=some (.k b):=fun nm b hb=>by
   simp only[AN,Akh] at hb;obtain⟨x,hx,he⟩:=hb;injection he with he
   subst he;exact hbo _ (AP hx)
  have hk:IL w S w':=hs'.Bo;refine⟨hs'.defers,v,hv1,v,ρ',Im',rfl,⟨fun nm b hb=>hs'.bk nm b (hst nm b hb),fun nm b hb hl hn=>?_,fun n1 n2 b1 b2 h1 h2=>hs'.inj n1 n2 b1 b2 (hst _ _ h1) (hst _ _ h2),
   fun b hb=>⟨(hs'.im b hb).1,(hs'.im b hb).2.1,fun nm bk hk=>(hs'.im b hb).2.2 nm bk (hst _ _ hk)⟩,⟨hk.os,hk.tape,hk.output,hk.size,fun b hb hn=>hk.block b hb fun h=>hn (hSS b h)⟩⟩,?_,trivial⟩
  ·obtain⟨g1,g2⟩:=hs'.own nm b (hst nm b hb) hl hn;exact⟨g1,g2.imp (hSS _) fun h=>h⟩
  ·subst hx;exact Ca.AgR hnc hv2
 rcases he with rfl|rfl
 ·exact hfin
 ·exact hfin
section
variable {P:Program} {N:Nat} {E:Env P N} {σ:St}
theorem Aii {l:List (Nat×AV)} {b bin:List (Nat×Blk)} (f:Nat->Nat) (L:List Nat) (hO:AiH E bin) (hp:∀p∈bin,∀n r,p.2=.pin n r->σ (.b p.1)=some (.k (.pin n r))/\(∃bk,σ (.b n)=some (.k bk)/\bk.live=true)/\n∉L)
  (hl:WY σ f L l) (hb:Gz σ f L b) (hi:HN f L b=true) (hwf:wfL l b=true):Le E σ (AN l b):=by
 intro a w ⟨ρ,Im,h⟩;have hsb:∀n x,AN l b (.b n)=some (.k x)->As b n=some x:=fun n x hx=>by
  simp only[AN,Akh] at hx;obtain⟨y,hy,e⟩:=hx;injection e with e;subst e
  exact hy
 refine⟨fun n=>ρ (f n),Bk σ ρ Im L,fun t x hx=>?_,fun n x hx=>?_,fun n x hx hlv hn=>?_,fun n1 n2 b1 b2 h1 h2 l1 l2 i1 i2 hne=>?_,
  fun c hc=>⟨?_,Ct h c hc,fun n x hx hlv hn=>?_⟩,I7 hwf,h.defers,h.size,h.Bo⟩
 ·simp only[AN,Akh] at hx;obtain⟨y,hy,e⟩:=hx;injection e with e;subst e
  obtain⟨z,hz,hw⟩:=Gy hl hy;exact hw.ok h (h.fr t z hz)
 ·obtain⟨z,hz,hw⟩:=BJ hb (hsb n x hx);exact hw.ok h (h.bk _ z hz)
 ·obtain⟨z,hz,hw⟩:=BJ hb (hsb n x hx);exact h.own _ z hz (hw.live hlv) hn
 ·obtain⟨z1,hz1,hw1⟩:=BJ hb (hsb _ _ h1);obtain⟨z2,hz2,hw2⟩:=BJ hb (hsb _ _ h2);exact h.inj _ _ z1 z2 hz1 hz2 (hw1.live l1) (hw2.live l2) i1 i2 (Io hi (hsb _ _ h1) (hsb _ _ h2) hne)
 ·rcases hc with hc|⟨nm,hnm,bk,h1,h2,h3,rfl⟩
  ·exact(h.im c hc).1
  ·rcases (h.own nm bk h1 h2 h3).2 with h4|h4
   ·obtain⟨p,hp1,n,r,e1,e2,e3⟩:=hO _ h4;obtain⟨g1,⟨bk2,g2,g3⟩,g4⟩:=hp p hp1 n r e1;have hr:ρ n=r:=h.bk p.1 _ g1;have hne:nm≠n:=fun e=>g4 (e▸hnm)
    exact absurd (by rw[e3,hr]) (h.inj nm n bk bk2 h1 g2 h2 g3 h3 (by rw[hr];exact e2) hne)
   ·exact .inr h4
 ·obtain⟨z,hz,hw⟩:=BJ hb (hsb n x hx);rcases hc with hc|⟨nm,hnm,bk,h1,h2,h3,rfl⟩
  ·exact(h.im c hc).2.2 _ z hz (hw.live hlv) hn
  ·exact h.inj _ _ z bk hz h1 (hw.live hlv) h2 hn h3 (MB hi (hsb n x hx) nm hnm)
end
section
variable {d:Nat} {t te yt ty:TypeId} {pos:String} {af:Array Edge} {gd:Option (Nat×Bool)} {gR:Ck} {x y:Operand} {ti ei:TyI}
theorem VY {b o n c:Nat} [ht:AT P t ti] (hg:GOK N ops σ gd gR) (hx:ev σ x=some (AD (.raw (.slice (some ⟨b,o,none⟩) n c)))) (hd:ti.k=.slice te) (hN:Nat.blt d N=true)
  (k:VR E ops dr rest (σ.set d (AI n)) ((gR.map (·.1)++opK x,[.s d]) :: tr) K):VR E ops dr (⟨some d,.call ⟨.builtin .len,#[x],#[t]⟩,ty,pos,af,gd⟩ :: rest) σ tr K:=
 E3 (v:=AI n) hg rfl hx hN (fun _ a w ρ Im _ h=>by
  have he:a.eval x=.slice (some ⟨b,o,none⟩) n c:=h.1;have hu:=ht.slice hd;exact⟨.int .i64 n,L3 hu a d x ty pos af gd w he,rfl⟩) (fun _ h=>by cases h) k
theorem Qd {b o n c m:Nat} {kd:IntKind} {i:Int} [ht:AT P t ti] [het:AT P te ei] (hg:GOK N ops σ gd gR) (hx:ev σ x=some (AD (.raw (.slice (some ⟨b,o,none⟩) n c)))) (hy:ev σ y=some (AD (.int kd i)))
  (hd:ti.k=.slice te) (hsz:ei.size=1) (hi:i=(m:Int)) (hm:m<n) (hN:Nat.blt d N=true)
  (k:VR E ops dr rest (σ.set d (AD (.raw (pvo b (o+m))))) ((gR.map (·.1)++(opK x++opK y),[.s d]) :: tr) K):VR E ops dr (⟨some d,.indexAddr t x y,ty,pos,af,gd⟩ :: rest) σ tr K:=
 Fe (v:=AD (.raw (pvo b (o+m)))) hg rfl hx hy hN (fun _ a w ρ Im _ h h'=>by
  have he:a.eval x=.slice (some ⟨b,o,none⟩) n c:=h.1;have he':a.eval y=.int kd i:=h';have hu:=ht.slice hd;refine⟨pvo b (o+m),?_,rfl,rfl⟩;have h0:¬n<=m:=by omega
  simp[execOp,he,he',Instr.indexAt,asIntOf,run_underlying hu,hi,h0,het.Bx,hsz,Addr.add_lit]) (fun _ h=>by cases h) k
theorem OX {l:List (Nat×AV)} {a:Act} {w w':World} {Im0:Nat->Prop} (hs:Sat E (AN l []) a w) (hl:(l.all fun p=>match p.2 with|.c (.d x)=>x.flat|_=>false)=true) (hI:∀b,Im0 b->b<w'.heap.size):
  Sat (⟨w',Im0,fun _=>False⟩:Env P N) (AN l []) a w':=by
 obtain⟨ρ,Im,h⟩:=hs;have hno:∀n bk,AN l [] (.b n)≠some (.k bk):=fun n bk hk=>by simp[AN,As] at hk
 refine⟨ρ,Im0,fun t x hx=>?_,fun n bk hk=>absurd hk (hno _ _),fun n bk hk=>absurd hk (hno _ _),fun n1 n2 b1 b2 h1=>absurd h1 (hno _ _),fun b hb=>⟨.inl hb,hI b hb,fun n bk hk=>absurd hk (hno _ _)⟩,h.wf,h.defers,h.size,IL.refl _ _⟩;have hx0:=h.fr t x hx;simp only[AN,Akh] at hx;obtain⟨y,hy,e⟩:=hx;injection e with e;subst e
 have hm:=AjL.1 hl _ (AP hy);cases y with
 |c c=>
  cases c with
  |d z=>exact DT.flat hm hx0
  |_=>cases hm
 |_=>cases hm
end
structure AcU (l:List Oper) (R U:Nat->Ck) (σ:St):Prop where
 reads:∀i,i<l.length->∀p∈R i,Jn U (List.range i) σ p.1=p.2
 AgS:∀j o,l[j]?=some o->∀e∈o.after,Region.binds .any e=true->e.on<j
 tail:∀j,l.length<=j->∀k,k∉(U j).map (·.1)
 apart:∀i j,i<j->j<l.length->i∈(Aaq l []).getD j [] \/
  ((∀k∈(R i).map (·.1),k∉(U j).map (·.1))/\(∀k∈(U i).map (·.1),k∉(U j).map (·.1))/\(∀k∈(U i).map (·.1),k∉(R j).map (·.1)))
section
variable {P:Program} {N:Nat} {E:Env P N} {l:List Oper} {R U:Nat->Ck} {σ:St}
theorem AcU.read (h:AcU l R U σ) {S:Nat->Bool} (hS:DC l S) {i:Nat} {o:Oper} (ho:l[i]?=some o) (hSi:S i=false) (hall:∀e∈o.after,Region.binds .any e=true->S e.on=true):
  ∀p∈R i,Jn U ((List.range l.length).filter S) σ p.1=p.2:=by
 intro p hp;have hin:i<l.length:=(Akg.1 ho).1;rw[<-h.reads i hin p hp]
 apply IC
 have hk:p.1∈(R i).map (·.1):=Aj5.2 ⟨p,hp,rfl⟩;rw[<-HT l.length i (by omega) (writes U p.1),AkT];refine AkY fun j hj=>?_
 have hjl:=Aj2.1 hj;by_cases hw:writes U p.1 j=true
 ·have hwj:p.1∈(U j).map (·.1):=by simpa [writes] using hw
  simp only[hw,Bool.and_true,AkZ];rcases Nat.lt_trichotomy j i with hji|hji|hji
  ·have:S j=true:=by
    rcases h.apart j i hji hin with ha|⟨_,_,hx⟩
    ·have:=Nl (hS.add ho hall) hin (by simp[J9]) ha;simp only[J9,Aks] at this;rcases this with h'|h'
     ·exact h'
     ·have:j=i:=by simpa using h'
      omega
    ·exact absurd hk (hx _ hwj)
   simp[this,hji]
  ·subst hji;simp[hSi]
  ·have:S j=false:=by
    cases hSj:S j with
    |false=>rfl
    |true=>
     rcases h.apart i j hji hjl with ha|⟨hx,_,_⟩
     ·have:=Nl hS hjl hSj ha;rw[hSi] at this;cases this
     ·exact absurd hwj (hx _ hk)
   simp[this,Nat.not_lt.2 (Nat.le_of_lt hji)]
 ·have:writes U p.1 j=false:=by simpa using hw
  simp[this]
theorem AcU.write (h:AcU l R U σ) {S:Nat->Bool} (hS:DC l S) {i:Nat} {o:Oper} (ho:l[i]?=some o) (hSi:S i=false):
  (Jn U ((List.range l.length).filter S) σ).Cl (U i)=Jn U ((List.range l.length).filter (J9 S i)) σ:=by
 have hin:i<l.length:=(Akg.1 ho).1
 funext k
 by_cases hk:k∈(U i).map (·.1)
 ·rw[EG U k ((List.range l.length).filter (J9 S i)) σ σ rfl,AkT,
   GB l.length i hin (fun a=>writes U k a&&J9 S i a) (by simp[writes,J9,hk]) ?_,Ni]
  ·exact St.SO _ _ (.inl hk)
  ·intro j hij;rcases Akf j l.length with hjl|hjl
   ·cases hw:writes U k j with
    |false=>simp
    |true=>
     have hwj:k∈(U j).map (·.1):=by simpa [writes] using hw
     have:S j=false:=by
      cases hSj:S j with
      |false=>rfl
      |true=>
       rcases h.apart i j hij hjl with ha|⟨_,hx,_⟩
       ·have:=Nl hS hjl hSj ha;rw[hSi] at this;cases this
       ·exact absurd hwj (hx _ hk)
     have hne:Nat.beq j i=false:=by
      cases hb:Nat.beq j i with
      |false=>rfl
      |true=>have:j=i:=by simpa using hb
             omega
     simp[J9,this,hne]
   ·cases hw:writes U k j with
    |false=>simp
    |true=>
     exact absurd (by simpa [writes] using hw) (h.tail j hjl k)
 ·rw[St.ON hk]
  apply IC
  rw[AkT,AkT];refine AkY fun j _=>?_
  by_cases hji:j=i
  ·subst hji;have:writes U k j=false:=by simp[writes,hk]
   simp[this]
  ·have hne:Nat.beq j i=false:=by
    cases hb:Nat.beq j i with
    |false=>rfl
    |true=>exact absurd (by simpa using hb) hji
   simp[J9,hne]
theorem Re {σ':St} {ops:Array Oper} {tr:List (List Key×List Key)} (h:XF E ops l σ tr σ') (hchk:chk l tr=true):
  ∃R U,AcU l R U σ/\(∀i o,l[i]?=some o->Afg E ops o (R i) (U i))/\σ'=Jn U (List.range l.length) σ:=by
 obtain⟨Hr,h1,h2,h3,h4,h5⟩:=h.Hr;simp only[chk,AjE] at hchk;obtain⟨hedge,hpair⟩:=hchk;have hget:∀i,i<l.length->∃r,Hr[i]?=some r:=fun i hi=>⟨Hr[i]'(by omega),AjC (by omega)⟩
 refine⟨fun i=>(Hr.getD i ([],[])).1,fun i=>(Hr.getD i ([],[])).2,⟨?_,?_,?_,?_⟩,?_,by rw[<-h1];exact h5⟩
 ·intro i hi p hp;obtain⟨r,hr⟩:=hget i hi;exact h4 i r hr p (by simpa [Ajt,hr] using hp)
 ·intro j o hj e he hb;simp only[Gg,AjL] at hedge;have:=hedge j (Aj2.2 (Akg.1 hj).1);rw[hj] at this;simp only[AkM,AkH,AjL] at this;have:=this e (by simpa using he);simpa [hb] using this
 ·intro j hj k;have:Hr.getD j ([],[])=([],[]):=by rw[Ajt,Aj0 (by omega)];rfl
  simp only[this];simp
 ·intro i j hij hj;simp only[Lz,AjL] at hpair;have:=hpair j (Aj2.2 (by rw[h2];simp;omega)) i (Aj2.2 hij);have htr:∀i,tr.getD i ([],[])=((Hr.getD i ([],[])).1.map (·.1),(Hr.getD i ([],[])).2.map (·.1)):=by
   intro i;rw[h2];simp only[Ajt,AkF];cases Hr[i]?<;>rfl
  simp only[Aks,AjE,htr] at this;rcases this with ha|⟨⟨hb,hc⟩,hd⟩
  ·exact .inl (PN l [] [] rfl (fun j i h=>by simp at h) j i ha)
  ·exact .inr ⟨GC hb,GC hc,GC hd⟩
 ·intro i o ho;obtain⟨r,hr⟩:=hget i (Akg.1 ho).1;have:=h3 i o r ho hr;simpa [Ajt,hr] using this
def Jk (l:List Oper) (m:Nat):Bool:=Gg l&&(List.range l.length).all fun j=>Nat.blt j m||(List.range j).all fun i=>((Xx l []).getD j 0).testBit i
theorem Vv {j:Nat} {o:Oper} (h:Gg l=true) (hj:l[j]?=some o):∀e∈o.after,Region.binds .any e=true->e.on<j:=by
 intro e he hb;simp only[Gg,AjL] at h;have:=h j (Aj2.2 (Akg.1 hj).1);rw[hj] at this;simp only[AkM,AkH,AjL] at this;have:=this e (by simpa using he);simpa [hb] using this
theorem NR (he:Gg l=true) {listed:Array Bool} (hsz:listed.size=l.length) (hnone:Region.ready .any l.toArray listed=[]):∀j,j<l.length->inS listed j=true:=by
 intro j
 induction j using Nat.strongRecOn with
 |_ j ih=>
  intro hj;cases hS:inS listed j with
  |true=>rfl
  |false=>
   exfalso;have:j∈Region.ready .any l.toArray listed:=by
    rw[mem_ready];have hjl:j<listed.size:=by omega
    refine⟨?_,l[j],by simp[hj],fun e he2 hb=>?_⟩
    ·unfold inS at hS;simp[hjl] at hS ⊢;exact hS
    ·have hlt:=Vv he (j:=j) (o:=l[j]) (by simp[hj]) e he2 hb;exact ih e.on hlt (by omega)
   rw[hnone] at this;cases this
theorem N3 {m:Nat} (hc:Jk l m=true) {listed:Array Bool} (hS:DC l (inS listed)) {j:Nat} (hj:j∈Region.ready .any l.toArray listed) (hm:m<=j):∀i,i<j->inS listed i=true:=by
 intro i hij;obtain⟨h0,o,ho,hall⟩:=mem_ready.1 hj;have ho':l[j]?=some o:=by simpa using ho
 have hjl:j<l.length:=(Akg.1 ho').1;simp only[Jk,AjE,AjL] at hc;have:=hc.2 j (Aj2.2 hjl);simp only[Aks,AjL] at this;rcases this with h1|h1
 ·have:j<m:=by simpa using h1
  omega
 ·have hb:=h1 i (Aj2.2 hij);have ha:i∈(Aaq l []).getD j []:=PN l [] [] rfl (fun j i h=>by simp at h) j i hb;have:=Nl (hS.add ho' hall) hjl (by simp[J9]) ha;simp only[J9,Aks] at this;rcases this with h'|h'
  ·exact h'
  ·have:i=j:=by simpa using h'
   omega
theorem VG {n:Nat} {Q:Exit->Act->World->Prop} {m:Nat} (hc:Jk l m=true):∀(k j:Nat) (fuel:Nat) (listed:Array Bool) (a:Act) (w:World),j+k=l.length->m<=j->k<=fuel->listed.size=l.length->(∀i,i<j->inS listed i=true)->(∀i,j<=i->inS listed i=false)->
  wpListIn Fence.wide n P l.toArray Q (l.drop j) a w->wpAnyIn Fence.wide n P .any l.toArray Q fuel listed a w
 |0,j,fuel,listed,a,w,hk,hm,hf,hsz,h1,h2,h=>by
  have hj:j=l.length:=by omega
  subst hj;rw[List.drop_length] at h;have hr:Region.ready .any l.toArray listed=[]:=by
   rw[List.eq_nil_iff_forall_not_mem];intro i hi;obtain⟨h0,o,ho,_⟩:=mem_ready.1 hi;have hin:i<l.length:=by simpa using (Array.getElem?_eq_some_iff.1 ho).1
   have:=h1 i hin;unfold inS at this;have hil:i<listed.size:=by omega
   simp[hil] at h0 this;rw[h0] at this;cases this
  exact wpAnyIn_done hr h _
 |k+1,j,0,listed,a,w,hk,hm,hf,hsz,h1,h2,h=>by omega
 |k+1,j,fuel+1,listed,a,w,hk,hm,hf,hsz,h1,h2,h=>by
  have he:Gg l=true:=by simp only[Jk,AjE] at hc;exact hc.1
  have hjl:j<l.length:=by omega
  have hS:DC l (inS listed):=by
   intro q o hq hSq e he2 hb;have hlt:q<j:=by
    rcases Akf q j with h3|h3
    ·exact h3
    ·rw[h2 q h3] at hSq;cases hSq
   have:=Vv he hq e he2 hb;exact h1 _ (by omega)
  have hdrop:l.drop j=l[j] :: l.drop (j+1):=AkV hjl;refine⟨fun hnone=>?_,fun i hi=>?_⟩
  ·have:=NR he hsz hnone j hjl;rw[h2 j (Akd _)] at this;cases this
  ·have hij:i=j:=by
    rcases Nat.lt_trichotomy i j with h3|h3|h3
    ·obtain⟨h0,_⟩:=mem_ready.1 hi;have:=h1 i h3;unfold inS at this;have hil:i<listed.size:=by omega
     simp[hil] at h0 this;rw[h0] at this;cases this
    ·exact h3
    ·have:=N3 hc hS hi (by omega) j h3;rw[h2 j (Akd _)] at this;cases this
   subst hij;have hK:∀a w,wpListIn Fence.wide n P l.toArray Q (l.drop (i+1)) a w->wpAnyIn Fence.wide n P .any l.toArray Q fuel (listed.setIfInBounds i true) a w:=fun a w h=>
    VG hc k (i+1) fuel _ a w (by omega) (by omega) (by omega) (by simpa using hsz) (fun q hq=>by
     rw[G5 (by omega)];simp only[J9,Aks];rcases Akf q i with h3|h3
     ·exact .inl (h1 q h3)
     ·right;have:q=i:=by omega
      subst this;simp) (fun q hq=>by
     rw[G5 (by omega)];have hne:Nat.beq q i=false:=by
      cases hb:Nat.beq q i with
      |false=>rfl
      |true=>have:q=i:=by simpa using hb
             omega
     simp only[J9,h2 q (by omega),hne,Bool.or_self]) h
   rw[hdrop] at h;unfold wpListIn at h;have ho:l.toArray[i]?=some l[i]:=by simp[hjl]
   unfold wpOpIn;rw[ho];simp only
   split
   ·rename_i hw;rw[Akc hw] at h;exact Oper.wpIn_mono hK h
   ·rename_i hw;rw[Akb hw] at h;exact⟨h.1,hK _ _ h.2⟩
theorem AcU.AiE {pre post:List Oper} {n:Nat} {Q:Exit->Act->World->Prop} (hl:l=pre++post) (h:AcU pre R U σ) (hacts:∀i o,pre[i]?=some o->Afg E l.toArray o (R i) (U i)) (hno:¬LetsOut Q) (hc:Jk l pre.length=true)
  (hK:∀a w,Sat E (Jn U (List.range pre.length) σ) a w->wpListIn Fence.wide n P l.toArray Q post a w):
  ∀(c fuel:Nat) (listed:Array Bool) (a:Act) (w:World),((List.range pre.length).filter fun j=>!inS listed j).length<=c->c+post.length<=fuel->listed.size=l.length->DC l (inS listed)->(∀j,pre.length<=j->inS listed j=false)->
   Sat E (Jn U ((List.range pre.length).filter (inS listed)) σ) a w->wpAnyIn Fence.wide n P .any l.toArray Q fuel listed a w:=by
 have he:Gg l=true:=by simp only[Jk,AjE] at hc;exact hc.1
 have hlen:l.length=pre.length+post.length:=by rw[hl,Ajy]
 have hdrop:l.drop pre.length=post:=by rw[hl,List.drop_left'];rfl
 have hfin:∀(fuel:Nat) (listed:Array Bool) (a:Act) (w:World),post.length<=fuel->listed.size=l.length->(∀j,j<pre.length->inS listed j=true)->(∀j,pre.length<=j->inS listed j=false)->Sat E (Jn U ((List.range pre.length).filter (inS listed)) σ) a w->wpAnyIn Fence.wide n P .any l.toArray Q fuel listed a w:=by
  intro fuel listed a w hf hsz h1 h2 hs;rw[List.filter_eq_self.2 fun j hj=>h1 j (Aj2.1 hj)] at hs;exact VG hc post.length pre.length fuel listed a w (by omega) (Akd _) hf hsz h1 h2 (by rw[hdrop];exact hK a w hs)
 intro c
 induction c with
 |zero=>
  intro fuel listed a w hcc hf hsz hS h2 hs;refine hfin fuel listed a w (by omega) hsz (fun j hj=>?_) h2 hs;cases hSj:inS listed j with
  |true=>rfl
  |false=>
   have hnil:(List.range pre.length).filter (fun j=>!inS listed j)=[]:=Akm (by omega);have:=List.filter_eq_nil_iff.1 hnil j (Aj2.2 hj);simp[hSj] at this
 |succ c ih=>
  intro fuel listed a w hcc hf hsz hS h2 hs;by_cases hall:∀j,j<pre.length->inS listed j=true
  ·exact hfin fuel listed a w (by omega) hsz hall h2 hs
  obtain⟨fuel,rfl⟩:∃f,fuel=f+1:=⟨fuel-1,by omega⟩;refine⟨fun hnone=>absurd (fun j hj=>NR he hsz hnone j (by omega)) hall,fun i hi=>?_⟩;have him:i<pre.length:=by
   rcases Akf i pre.length with h3|h3
   ·exact h3
   ·exact absurd (fun j hj=>N3 hc hS hi h3 j (by omega)) hall
  obtain⟨h0,o,ho,hallE⟩:=mem_ready.1 hi;have ho':l[i]?=some o:=by simpa using ho
  have hop:pre[i]?=some o:=by
   rw[hl,Akv him] at ho';exact ho'
  have hil:i<listed.size:=by omega
  have hSi:inS listed i=false:=by
   unfold inS;simp[hil] at h0 ⊢;exact h0
  have hSp:DC pre (inS listed):=fun j oj hj=>hS j oj (by rw[hl,Akv (Akg.1 hj).1];exact hj)
  have hact:=hacts i o hop _ a w (wpAnyIn Fence.wide n P .any l.toArray Q fuel (listed.setIfInBounds i true)) Q hs (h.read hSp hop hSi hallE) (fun a' w' h'=>?_)
  ·unfold wpOpIn;rw[ho];simp only
   split
   ·rename_i hw;rw[Akc hw] at hact;rcases hact with h1|⟨_,h1⟩
    ·exact TA h1
    ·exact absurd h1 hno
   ·rename_i hw;rw[Akb hw] at hact;exact⟨fun _ _=>trivial,hact⟩
  ·rw[h.write hSp hop hSi] at h';have hfilt:((List.range pre.length).filter fun j=>!inS (listed.setIfInBounds i true) j).length<((List.range pre.length).filter fun j=>!inS listed j).length:=by
    rw[G5 hil];have hsub:(List.range pre.length).filter (fun j=>!J9 (inS listed) i j)=((List.range pre.length).filter fun j=>!inS listed j).filter (fun j=>!(Nat.beq j i)):=by
     rw[AkT];refine AkY fun j _=>?_
     simp only[J9];cases inS listed j<;>cases Nat.beq j i<;>rfl
    rw[hsub,List.length_filter_lt_length_iff_exists];exact⟨i,Aj3.2 ⟨Aj2.2 him,by simp[hSi]⟩,by simp⟩
   refine ih fuel _ a' w' (by omega) (by omega) (by simpa using hsz) ?_ (fun j hj=>?_) ?_
   ·rw[G5 hil];exact hS.add ho' hallE
   ·rw[G5 hil];have hne:Nat.beq j i=false:=by
     cases hb:Nat.beq j i with
     |false=>rfl
     |true=>have:j=i:=by simpa using hb
            omega
    simp only[J9,h2 j hj,hne,Bool.or_self]
   ·rw[G5 hil];exact h'
theorem VH:∀(b:List Oper) (acc:List Nat) {j:Nat},j<acc.length->(Xx b acc).getD j 0=acc.getD j 0
 |[],_,_,_=>rfl
 |o :: b,acc,j,hj=>by
  unfold Xx;rw[VH b _ (by rw[Ajy];omega),Ajt,Akv hj,<-Ajt]
theorem VJ:∀(a b:List Oper) (acc:List Nat),Xx (a++b) acc=Xx b (Xx a acc)
 |[],_,_=>rfl
 |o :: a,b,acc=>VJ a b _
theorem VI:∀(a:List Oper) (acc:List Nat),(Xx a acc).length=acc.length+a.length
 |[],acc=>by simp[Xx]
 |o :: a,acc=>by rw[Xx,VI a];simp;omega
theorem AeZ {pre post:List Oper} {tr:List (List Key×List Key)} (htr:tr.length=pre.length) (h:chk (pre++post) tr=true):chk pre tr=true:=by
 simp only[chk,AjE] at h ⊢;refine⟨?_,?_⟩
 ·have h1:=h.1;simp only[Gg,AjL] at h1 ⊢;intro j hj;have hjl:=Aj2.1 hj;have:=h1 j (Aj2.2 (by rw[Ajy];omega))
  rwa [Akv hjl] at this
 ·have h2:=h.2;simp only[Lz,AjL] at h2 ⊢;intro j hj i hi;have:=h2 j hj i hi;rw[VJ,VH post (Xx pre []) (by rw[VI];have:=Aj2.1 hj;simp;omega)] at this;exact this
theorem Aa5 {ops:Array Oper} {tr:List (List Key×List Key)} {rest:List Oper} {σ':St} (h:XF E ops rest σ tr σ'):tr.length=rest.length:=by
 induction h with
 |nil=>rfl
 |cons _ _ _ ih=>simp[ih]
theorem Xf {id n:Nat} {pre post:List Oper} {Q:Exit->Act->World->Prop} (k:Nat) (h1:l.take k=pre) (h2:l.drop k=post) (hm:P.follows .mixedOrders=true) (hno:¬LetsOut Q) (hc:Jk l pre.length=true)
  (h:VR E l.toArray true pre σ [] (fun σ'=>∀a w,Sat E σ' a w->wpListIn Fence.wide n P l.toArray Q post a w)):
  ∀a w,Sat E σ a w->(Code.region id l.toArray true).wpIn Fence.wide n P Q a w:=by
 obtain⟨tr,σ',hr,hch0,hK⟩:=h;have hch:chk pre tr=true:=by
  have:=hch0 rfl;rw[List.reverse_nil,Akp,show l.toArray.toList=pre++post by rw[<-h1,<-h2,AjS]] at this;exact AeZ (Aa5 hr) this
 obtain⟨R,U,hL,hA,rfl⟩:=Re hr hch;intro a w hs;have hl:l=pre++post:=by rw[<-h1,<-h2,AjS]
 obtain⟨ρ,Im,hsat⟩:=hs;have hnone:∀j,inS (Array.replicate l.toArray.size false) j=false:=by
  intro j;unfold inS;rcases Akf j l.length with hj|hj
  ·simp[hj]
  ·simp[hj]
 refine wpIn_region_any hm (AcU.AiE hl hL hA hno hc hK pre.length _ _ _ _ ?_ ?_ (by simp) ?_ (fun j _=>hnone j) ?_)
 ·refine Akn (Aj4 _ _) ?_;simp
 ·have:l.toArray.size=l.length:=by simp
  rw[this,hl,Ajy];exact Akd _
 ·intro j o _ hj;rw[hnone] at hj;cases hj
 ·have:(List.range pre.length).filter (inS (Array.replicate l.toArray.size false))=[]:=List.filter_eq_nil_iff.2 fun j _=>by rw[hnone];simp
  rw[this];exact⟨ρ,Im,hsat.drew⟩
end
def Agv (R:Nat->RI) (n:Nat):List (Nat×Blk):=(List.range n).map fun j=>(20000+j,.pin (8000+j) (R j))
def Ef (FX:List (Nat×Blk)) (R:Nat->RI) (X:List (List C)):List (Nat×Blk):=FX++(Xd 8000 X++Agv R X.length)
theorem Ii {α:Type}:∀{l:List (Nat×α)} {n:Nat},(∀p∈l,p.1≠n)->As l n=none
 |[],_,_=>rfl
 |(m,x) :: l,n,h=>by
  simp only[As];have hne:Nat.beq m n=false:=by
   cases hb:Nat.beq m n with
   |false=>rfl
   |true=>exact absurd (Aki hb) (h (m,x) (by simp))
  rw[hne];exact Ii fun p hp=>h p (by simp[hp])
theorem YC {R:Nat->RI} {j:Nat}:∀{n:Nat},j<n->As (Agv R n) (20000+j)=some (.pin (8000+j) (R j))
 |0,h=>by omega
 |n+1,h=>by
  unfold Agv;rw[AkN,Akl,Ci];rcases Akf j n with h1|h1
  ·have:=YC (R:=R) h1;unfold Agv at this;rw[this];rfl
  ·have e:j=n:=by omega
   subst e;rw[Ii (fun p hp=>by
    obtain⟨q,hq,rfl⟩:=Aj5.1 hp;have:=Aj2.1 hq;show 20000+q≠20000+j;omega)]
   simp[As]
theorem YB {R:Nat->RI} {n m:Nat} {b:Blk} (h:As (Agv R n) m=some b):∃j,j<n/\m=20000+j/\b=.pin (8000+j) (R j):=by
 obtain⟨q,hq,e⟩:=Aj5.1 (AP h);injection e with e1 e2
 exact⟨q,Aj2.1 hq,e1.symm,e2.symm⟩
def FV (FX:List (Nat×Blk)):Prop:=∀p∈FX,p.1<8000\/(8100<=p.1/\p.1<20000)
section
variable {FX:List (Nat×Blk)} {R:Nat->RI} {X:List (List C)}
theorem B7 {n:Nat} {b:Blk} (h:As FX n=some b):As (Ef FX R X) n=some b:=by
 unfold Ef;rw[Ci,h];rfl
theorem G3 (hf:FV FX) (hX:X.length<=100) {i:Nat} (hi:i<X.length):As (Ef FX R X) (8000+i)=some (.box (X.getD i [])):=by
 unfold Ef;rw[Ci,Ii (fun p hp=>by have:=hf p hp;omega),Ci,Ub hi];rfl
theorem Ig (hf:FV FX) (hX:X.length<=100) {j:Nat} (hj:j<X.length):As (Ef FX R X) (20000+j)=some (.pin (8000+j) (R j)):=by
 unfold Ef;rw[Ci,Ii (fun p hp=>by have:=hf p hp;omega),Ci,Ua (by omega),YC hj];rfl
theorem B1 {n:Nat} {b:Blk} (h:As (Ef FX R X) n=some b):As FX n=some b\/(∃i,i<X.length/\n=8000+i/\b=.box (X.getD i []))\/∃j,j<X.length/\n=20000+j/\b=.pin (8000+j) (R j):=by
 unfold Ef at h;rw[Ci] at h;cases h1:As FX n with
 |some x=>rw[h1] at h;exact .inl h
 |none=>
  rw[h1,Option.none_or,Ci] at h;cases h2:As (Xd 8000 X) n with
  |some x=>
   rw[h2] at h;obtain⟨i,hi,e1,e2⟩:=ZP h2;injection h with h
   exact .inr (.inl ⟨i,hi,e1,by rw[<-h];exact e2⟩)
  |none=>
   rw[h2,Option.none_or] at h;exact .inr (.inr (YB h))
theorem Vg {p:Nat×Blk} (h:p∈Ef FX R X):p∈FX\/(∃i,i<X.length/\p=(8000+i,.box (X.getD i [])))\/∃j,j<X.length/\p=(20000+j,.pin (8000+j) (R j)):=by
 unfold Ef at h;rcases List.mem_append.1 h with h|h
 ·exact .inl h
 ·rcases List.mem_append.1 h with h|h
  ·exact .inr (.inl (Vt h))
  ·obtain⟨q,hq,e⟩:=Aj5.1 h;exact .inr (.inr ⟨q,Aj2.1 hq,e.symm⟩)
theorem Od (hf:FV FX) (hX:X.length<=100) (h2:∀p∈FX,∀n∈p.2.names,(As (Ef FX R X) n).isSome=true) (h3:∀cs∈X,∀c∈cs,c.names=[]):
  ∀p∈Ef FX R X,∀n∈p.2.names,(As (Ef FX R X) n).isSome=true:=by
 intro p hp n hn;rcases Vg hp with hp|⟨i,hi,rfl⟩|⟨j,hj,rfl⟩
 ·exact h2 p hp n hn
 ·exfalso;have hm:X.getD i []∈X:=by
   rw[Ajt,AjC hi];exact AjZ hi
  simp only[Blk.names,List.mem_flatMap] at hn;obtain⟨c,hc,hcn⟩:=hn;rw[h3 _ hm c hc] at hcn;cases hcn
 ·have:n=8000+j:=by simpa [Blk.names] using hn
  subst this;rw[G3 hf hX hj];rfl
theorem Pg {l:List (Nat×AV)} (hf:FV FX) (hX:X.length<=100) (h1:∀p∈l,p.2.shallow=true/\∀n∈p.2.names,(As (Ef FX R X) n).isSome=true)
  (h2:∀p∈FX,∀n∈p.2.names,(As (Ef FX R X) n).isSome=true) (h3:∀cs∈X,∀c∈cs,c.names=[]):wfL l (Ef FX R X)=true:=
 Afv h1 (Od hf hX h2 h3)
theorem CW.refl {σ:St} {L:List Nat}:∀c:C,CW σ (fun n=>n) L c c
 |.d _=>.d
 |.ptr _ _=>.ptr rfl
 |.row _ _=>.row rfl rfl
 |.fn _ _ _=>.fn rfl
 |.mp _=>.mp rfl
theorem CWs.E7 {σ:St} {L:List Nat}:∀cs:List C,Bh (CW σ (fun n=>n) L) cs cs
 |[]=>.nil
 |c :: cs=>.cons (CW.refl c) (CWs.E7 cs)
variable {P:Program} {N:Nat} {E:Env P N} {σ:St}
theorem AeC {l:List (Nat×AV)} (hl:WY σ (fun n=>n) [] l) (hF:Gz σ (fun n=>n) [] FX) (hX:∀i,i<X.length->∃cs,σ (.b (8000+i))=some (.k (.box cs))/\Bh (CW σ (fun n=>n) []) cs (X.getD i []))
  (hP:∀j,j<X.length->σ (.b (20000+j))=some (.k (.pin (8000+j) (R j)))) (hwf:wfL l (Ef FX R X)=true):Le E σ (AN l (Ef FX R X)):=by
 refine Y9 (fun n=>n) hl (fun n x hx=>?_) (fun n m _ _ h=>h) hwf;rcases B1 hx with h|⟨i,hi,rfl,rfl⟩|⟨j,hj,rfl,rfl⟩
 ·exact BJ hF h
 ·obtain⟨cs,h1,h2⟩:=hX i hi;exact⟨_,h1,.box h2⟩
 ·exact⟨_,hP j hj,.pin rfl⟩
theorem Q6 {l:List (Nat×AV)} (hf:FV FX) (hX:X.length<=100) {i:Nat} (hi:i<X.length):AN l (Ef FX R X) (.b (8000+i))=some (.k (.box (X.getD i []))):=by
 show(As (Ef FX R X) (8000+i)).map Item.k=_;rw[G3 hf hX hi];rfl
theorem Oe {l:List (Nat×AV)} (hf:FV FX) (hX:X.length<=100) {j:Nat} (hj:j<X.length):AN l (Ef FX R X) (.b (20000+j))=some (.k (.pin (8000+j) (R j))):=by
 show(As (Ef FX R X) (20000+j)).map Item.k=_;rw[Ig hf hX hj];rfl
end
section
variable {g:Nat->Nat}
theorem C.Ge (hg:∀n,g (g n)=n) (c:C):(c.ren g).ren g=c:=by
 cases c<;>simp[C.ren,hg]
theorem Cs.Ge (hg:∀n,g (g n)=n) (cs:List C):(cs.map (C.ren g)).map (C.ren g)=cs:=by
 have h:C.ren g∘C.ren g=id:=funext fun c=>C.Ge hg c
 rw[AkO,h,List.map_id]
theorem Css.Ge (hg:∀n,g (g n)=n) (xs:List (List C)):(xs.map fun cs=>cs.map (C.ren g)).map (fun cs=>cs.map (C.ren g))=xs:=by
 have h:(fun cs:List C=>cs.map (C.ren g))∘(fun cs=>cs.map (C.ren g))=id:=funext fun c=>Cs.Ge hg c
 rw[AkO,h,List.map_id]
theorem Blk.Ge (hg:∀n,g (g n)=n) (b:Blk):(b.ren g).ren g=b:=by
 cases b with
 |box cs=>simp only[Blk.ren,Cs.Ge hg]
 |row T sz xs=>simp only[Blk.ren,Css.Ge hg]
 |full T sz cp xs spare=>simp only[Blk.ren,Css.Ge hg]
 |map es=>
  simp only[Blk.ren,AkO];have h:(fun p:List Int×C=>(p.1,p.2.ren g))∘(fun p=>(p.1,p.2.ren g))=id:=funext fun p=>by simp[C.Ge hg]
  rw[h,List.map_id]
 |pin n r=>simp only[Blk.ren,hg]
 |dead=>rfl
def Aay (g:Nat->Nat) (b:List (Nat×Blk)):List (Nat×Blk):=b.map fun p=>(g p.1,p.2.ren g)
theorem QF (hg:∀n,g (g n)=n):∀(b:List (Nat×Blk)) (n:Nat),As (Aay g b) n=(As b (g n)).map (Blk.ren g)
 |[],n=>rfl
 |p :: b,n=>by
  have e:Nat.beq (g p.1) n=Nat.beq p.1 (g n):=by
   cases h1:Nat.beq (g p.1) n with
   |true=>
    have e1:=Aki h1;rw[<-e1,hg];exact(Nat.beq_refl _).symm
   |false=>
    cases h2:Nat.beq p.1 (g n) with
    |false=>rfl
    |true=>
     have e2:=Aki h2;rw[e2,hg,Nat.beq_refl] at h1;cases h1
  show As ((g p.1,p.2.ren g) :: Aay g b) n=_;unfold As;rw[e];cases h:Nat.beq p.1 (g n) with
  |true=>rfl
  |false=>exact QF hg b n
theorem Blk.O2 (g:Nat->Nat) (b:Blk):(b.ren g).live=b.live:=by cases b<;>rfl
theorem F1.ren {P:Program} {N:Nat} {E:Env P N} {b:List (Nat×Blk)} {w:World} {ρ:Nat->RI} {Im:Nat->Prop} (hg:∀n,g (g n)=n) (h:F1 E (AN [] b) w ρ Im):F1 E (AN [] (Aay g b)) w (fun n=>ρ (g n)) Im:=by
 have hs:∀n x,AN [] (Aay g b) (.b n)=some (.k x)->∃y,AN [] b (.b (g n))=some (.k y)/\x=y.ren g:=fun n x hx=>by
  simp only[AN,Akh] at hx;obtain⟨y,hy,e⟩:=hx;injection e with e;subst e
  rw[QF hg] at hy;obtain⟨z,hz,rfl⟩:=Akh.1 hy;exact⟨z,by simp[AN,hz],rfl⟩
 refine⟨fun n x hx=>?_,fun n x hx hl hn=>?_,fun n1 n2 b1 b2 h1 h2 l1 l2 i1 i2 hne=>?_,fun c hc=>⟨(h.im c hc).1,(h.im c hc).2.1,fun n x hx hl hn=>?_⟩,h.Bo⟩
 ·obtain⟨y,hy,rfl⟩:=hs n x hx;have:=Blk.F7 (ρ:=ρ) (ρ':=fun n=>ρ (g n)) (w:=w) (w':=w) (Im:=Im) (Im':=Im) (g:=g) (b:=y) (n:=g n) (.inr fun c hc=>⟨hc,rfl⟩) (by show ρ (g (g (g n)))=_;rw[hg]) (fun _ _=>rfl) (fun m _=>by show ρ (g (g m))=_;rw[hg]) (h.bk _ _ hy)
  rwa [hg] at this
 ·obtain⟨y,hy,rfl⟩:=hs n x hx;rw[Blk.O2] at hl;exact h.own _ _ hy hl hn
 ·obtain⟨y1,hy1,rfl⟩:=hs n1 b1 h1;obtain⟨y2,hy2,rfl⟩:=hs n2 b2 h2;rw[Blk.O2] at l1 l2;exact h.inj _ _ _ _ hy1 hy2 l1 l2 i1 i2 fun e=>hne (by rw[<-hg n1,<-hg n2,e])
 ·obtain⟨y,hy,rfl⟩:=hs n x hx;rw[Blk.O2] at hl;exact(h.im c hc).2.2 _ _ hy hl hn
theorem Ym (hg:∀n,g (g n)=n) (b:List (Nat×Blk)):Aay g (Aay g b)=b:=by
 unfold Aay;have h:(fun p:Nat×Blk=>(g p.1,p.2.ren g))∘(fun p=>(g p.1,p.2.ren g))=id:=funext fun p=>by simp[hg,Blk.Ge hg]
 rw[AkO,h,List.map_id]
theorem FnS.Ajh {P:Program} {f:FuncId} {args args':List AV} {bin bout:List (Nat×Blk)} (hg:∀n,g (g n)=n) (h:FnS P f args bin (.tup []) bout)
  (ha:∀(w:World) (Im S0:Nat->Prop) (ρ:Nat->RI) (vs:List Value),Bh (Ca (⟨w,Im,S0⟩:Env P 0) ρ w Im) args' vs->Bh (Ca (⟨w,Im,S0⟩:Env P 0) (fun n=>ρ (g n)) w Im) args vs):FnS P f args' (Aay g bin) (.tup []) (Aay g bout):=by
 refine⟨h.1,fun w ρ Im S0 vs hv hm=>?_⟩;have hm2:=F1.ren hg hm;rw[Ym hg] at hm2;refine(h.2 w _ Im S0 vs (ha w Im S0 ρ vs hv) hm2).mono ?_;rintro e w' ⟨v,ρ',Im',he,hm',hr,_⟩;refine⟨v,fun n=>ρ' (g n),Im',he,F1.ren hg hm',?_,trivial⟩;obtain⟨us,hv,hu⟩:=hr;cases hu;exact⟨[],hv,.nil⟩
end
section
variable {P:Program} {N:Nat} {E:Env P N} {σ:St}
theorem A8.AgX {a:Act} {w:World} {ρ:Nat->RI} {Im:Nat->Prop} (h:A8 E σ a w ρ Im) {f:FuncId} {cargs:List AV} {bin bout:List (Nat×Blk)} {vs:List Value}
  (hF:FnS P f cargs bin (.tup []) bout) (hb:∀n b,As bin n=some b->σ (.b n)=some (.k b)) (hargs:Bh (Ca (⟨w,Im,fun c=>∃n b,As bin n=some b/\b.live=true/\(ρ n).isNil=false/\c=(ρ n).blk⟩:Env P 0) ρ w Im) cargs vs)
  (D:Nat->Bool) (hD:∀n,D n=true->∃b,As bout n=some b) (hmen:∀n,D n=true->∀k it,σ k=some it->(∀q,k=.b q->As bout q=none)->it.mentions n=false)
  (hpin:∀n b,As bin n=some b->b.live=true->D n=false->∃pn r,As bin pn=some (.pin n r)/\As bout pn=some (.pin n r))
  (hin:∀n b,As bin n=some b->∃b',As bout n=some b')
  (hout:∀n b,As bout n=some b->∃b',As bin n=some b'/\(b.live=true->b'.live=true)/\∀m,b.mentions m=true->∃b2,As bin m=some b2/\b2.live=true)
  {τ:St} (hτs:∀t,τ (.s t)=σ (.s t)) (hτb:∀n,τ (.b n)=match As bout n with|some b=>some (.k b)|none=>σ (.b n)):
  Calls P f vs.toArray w fun e w'=>∃v,e=.returned v/\(∃us:List Value,v=.tuple us.toArray/\us=[])/\∃ρ2 Im',A8 E τ a w' ρ2 Im':=by
 obtain⟨S,hS⟩:∃S:Nat->Prop,S=fun c=>∃n b,As bin n=some b/\b.live=true/\(ρ n).isNil=false/\c=(ρ n).blk:=⟨_,rfl⟩
 rw[<-hS] at hargs;have hbs:∀n b,AN [] bin (.b n)=some (.k b)->As bin n=some b:=fun n x hx=>by
  simp only[AN,Akh] at hx;obtain⟨y,hy,e⟩:=hx;injection e with e;subst e
  exact hy
 have hbo:∀n b,As bout n=some b->AN [] bout (.b n)=some (.k b):=fun n b hx=>by simp[AN,hx]
 have hSlt:∀c,S c->c<w.heap.size/\(E.S0 c\/E.w0.heap.size<=c):=fun c hc=>by
  rw[hS] at hc;obtain⟨n,b,h1,h2,h3,rfl⟩:=hc;exact h.own n b (hb n b h1) h2 h3
 have hSIm:∀c,Im c->¬S c:=fun c hc hs=>by
  rw[hS] at hs;obtain⟨n,b,h1,h2,h3,rfl⟩:=hs;exact(h.im _ hc).2.2 n b (hb n b h1) h2 h3 rfl
 have hmem:F1 (⟨w,Im,S⟩:Env P 0) (AN [] bin) w ρ Im:=by
  refine⟨fun n b hx=>h.bk n b (hb n b (hbs n b hx)),fun n b hx hl hn=>⟨(h.own n b (hb n b (hbs n b hx)) hl hn).1,.inl ?_⟩,fun n1 n2 b1 b2 h1 h2=>h.inj n1 n2 b1 b2 (hb _ _ (hbs _ _ h1)) (hb _ _ (hbs _ _ h2)),
   fun c hc=>⟨.inl hc,(h.im c hc).2.1,fun n b hx=>(h.im c hc).2.2 n b (hb n b (hbs n b hx))⟩,IL.refl _ _⟩
  show S _;rw[hS];exact⟨n,b,hbs n b hx,hl,hn,rfl⟩
 refine(hF.2 w ρ Im S vs hargs hmem).mono ?_;rintro e w' ⟨v,ρ',Im',he,hm,hres,_⟩;refine⟨v,he,?_,?_⟩
 ·obtain⟨us,hv,hu⟩:=hres;cases hu;exact⟨[],hv,rfl⟩
 obtain⟨ρ2,hρ2⟩:∃ρ2:Nat->RI,ρ2=fun n=>if D n=true then ρ' n else ρ n:=⟨_,rfl⟩
 have hd1:∀n,D n=true->ρ2 n=ρ' n:=fun n hn=>by rw[hρ2];exact Akc hn
 have hd0:∀n,D n=false->ρ2 n=ρ n:=fun n hn=>by rw[hρ2];exact Akb (by rw[hn];decide)
 have hρ:∀n b,As bin n=some b->b.live=true->ρ2 n=ρ' n:=fun n b h1 h2=>by
  cases hd:D n with
  |true=>exact hd1 n hd
  |false=>
   obtain⟨pn,r,p1,p2⟩:=hpin n b h1 h2 hd;have e1:ρ n=r:=h.bk pn _ (hb _ _ p1);have e2:ρ' n=r:=hm.bk pn _ (hbo _ _ p2);rw[hd0 n hd,e1,e2]
 have hk:IL w S w':=hm.Bo;have hkeep:∀c,c<w.heap.size->¬S c->w'.heap[c]?=w.heap[c]?:=fun c h1 h2=>hk.block c h1 h2
 have hI:∀c,Im c->(Im c\/Im' c)/\w'.heap[c]?=w.heap[c]?:=fun c hc=>⟨.inl hc,hkeep c (h.im c hc).2.1 (hSIm c hc)⟩
 have hτ:∀n b,τ (.b n)=some (.k b)->As bout n=some b\/(As bout n=none/\σ (.b n)=some (.k b)):=fun n b hx=>by
  rw[hτb] at hx;cases ho:As bout n with
  |some b'=>rw[ho] at hx;injection hx with hx;injection hx with hx;exact .inl (by rw[hx])
  |none=>rw[ho] at hx;exact .inr ⟨rfl,hx⟩
 have hDn:∀n,As bout n=none->D n=false:=fun n hn=>by
  cases hd:D n with
  |false=>rfl
  |true=>obtain⟨b,e⟩:=hD n hd;rw[hn] at e;cases e
 have hcase:∀n b,τ (.b n)=some (.k b)->b.live=true->(As bout n=some b/\ρ2 n=ρ' n)\/(As bout n=none/\σ (.b n)=some (.k b)/\ρ2 n=ρ n):=fun n b hx hl=>by
  rcases hτ n b hx with ho|⟨ho,hx⟩
  ·obtain⟨b',h1,h2,_⟩:=hout n b ho;exact .inl ⟨ho,hρ n b' h1 (h2 hl)⟩
  ·exact .inr ⟨ho,hx,hd0 n (hDn n ho)⟩
 have hfar:∀n b m c,As bout n=some b->b.live=true->(ρ' n).isNil=false->As bout m=none->σ (.b m)=some (.k c)->c.live=true->(ρ m).isNil=false->(ρ' n).blk≠(ρ m).blk:=fun n b m c h1 h2 h3 h4 h5 h6 h7 e=>by
  rcases (hm.own n b (hbo _ _ h1) h2 h3).2 with hs|hs
  ·have hs:S _:=hs;rw[hS] at hs;obtain⟨q,b2,g1,g2,g3,g4⟩:=hs;have hne:q≠m:=fun e2=>by
    subst e2;obtain⟨b3,g5⟩:=hin q b2 g1;rw[h4] at g5;cases g5
   exact h.inj q m b2 c (hb _ _ g1) h5 g2 h6 g3 h7 hne (by rw[<-g4,e])
  ·have hs:w.heap.size<=_:=hs;have:=(h.own m c h5 h6 h7).1;omega
 have hmk:∀k it,σ k=some it->(∀q,k=.b q->As bout q=none)->∀n,it.mentions n=true->ρ2 n=ρ n:=fun k it hk2 hq n hn=>by
  cases hd:D n with
  |false=>exact hd0 n hd
  |true=>rw[hmen n hd k it hk2 hq] at hn;cases hn
 refine⟨ρ2,fun c=>Im c\/Im' c,fun t x hx=>?_,fun n b hx=>?_,fun n b hx hl hn=>?_,fun n1 n2 b1 b2 h1 h2 l1 l2 i1 i2 hne=>?_,fun c hc=>?_,fun k it hk2 n hn=>?_,h.defers,h.size,h.Bo.step hk.os hk.tape hk.output hk.size fun c h1 h2=>?_⟩
 ·rw[hτs] at hx;exact Ca.Bo hI (fun n hn=>hmk _ _ hx (fun q hq=>by cases hq) n hn) (h.fr t x hx)
 ·rcases hτ n b hx with ho|⟨hno,hx⟩
  ·obtain⟨b',h1,h2,h3⟩:=hout n b ho;have hbk:=hm.bk n b (hbo _ _ ho);have hm2:∀m,b.mentions m=true->ρ2 m=ρ' m:=fun m hmm=>by
    obtain⟨b2,g1,g2⟩:=h3 m hmm;exact hρ m b2 g1 g2
   cases hlv:b.live with
   |true=>exact BQ.Bo (fun c hc=>⟨.inr hc,rfl⟩) (hρ n b' h1 (h2 hlv)) (fun _ _=>rfl) hm2 hbk
   |false=>
    cases b with
    |dead=>trivial
    |pin m r=>
     have e:ρ' m=r:=hbk;show ρ2 m=r;rw[hm2 m (by simp[Blk.mentions])];exact e
    |box=>cases hlv
    |row=>cases hlv
    |full=>cases hlv
    |map=>cases hlv
  ·refine BQ.Bo hI (hd0 n (hDn n hno)) (fun hn hl=>hkeep _ (h.own n b hx hl hn).1 fun hs=>?_) (fun m hmm=>hmk _ _ hx (fun q hq=>by injection hq with hq;rw[<-hq];exact hno) m hmm) (h.bk n b hx);rw[hS] at hs;obtain⟨m,b2,g1,g2,g3,g4⟩:=hs;by_cases e:n=m
   ·subst e;obtain⟨b3,g5⟩:=hin n b2 g1;rw[hno] at g5;cases g5
   ·exact h.inj n m b b2 hx (hb _ _ g1) hl g2 hn g3 e g4
 ·rcases hcase n b hx hl with⟨ho,e⟩|⟨ho,hx,e⟩<;>rw[e] at hn ⊢
  ·obtain⟨g1,g2⟩:=hm.own n b (hbo _ _ ho) hl hn;refine⟨g1,?_⟩;rcases g2 with g2|g2
   ·exact(hSlt _ g2).2
   ·exact .inr (Akn h.Bo.size g2)
  ·have:=h.own n b hx hl hn;exact⟨AjV this.1 hk.size,this.2⟩
 ·rcases hcase n1 b1 h1 l1 with⟨o1,e1⟩|⟨o1,x1,e1⟩<;>rcases hcase n2 b2 h2 l2 with⟨o2,e2⟩|⟨o2,x2,e2⟩<;>rw[e1] at i1 ⊢<;>rw[e2] at i2 ⊢
  ·exact hm.inj n1 n2 b1 b2 (hbo _ _ o1) (hbo _ _ o2) l1 l2 i1 i2 hne
  ·exact hfar n1 b1 n2 b2 o1 l1 i1 o2 x2 l2 i2
  ·exact(hfar n2 b2 n1 b1 o2 l2 i2 o1 x1 l1 i1).symm
  ·exact h.inj _ _ _ _ x1 x2 l1 l2 i1 i2 hne
 ·rcases hc with hc|hc
  ·refine⟨(h.im c hc).1,AjV (h.im c hc).2.1 hk.size,fun n b hx hl hn=>?_⟩;rcases hcase n b hx hl with⟨ho,e⟩|⟨ho,hx,e⟩<;>rw[e] at hn ⊢
   ·rcases (hm.own n b (hbo _ _ ho) hl hn).2 with hs|hs
    ·have hs:S _:=hs;rw[hS] at hs;obtain⟨q,b2,g1,g2,g3,g4⟩:=hs;rw[g4];exact(h.im c hc).2.2 q b2 (hb _ _ g1) g2 g3
    ·have hs:w.heap.size<=_:=hs;have:=(h.im c hc).2.1;omega
   ·exact(h.im c hc).2.2 n b hx hl hn
  ·obtain⟨g1,g2,g3⟩:=hm.im c hc;refine⟨?_,g2,fun n b hx hl hn=>?_⟩
   ·rcases g1 with g1|g1
    ·exact(h.im c g1).1
    ·exact .inr (Akn h.Bo.size g1)
   ·rcases hcase n b hx hl with⟨ho,e⟩|⟨ho,hx,e⟩<;>rw[e] at hn ⊢
    ·exact g3 n b (hbo _ _ ho) hl hn
    ·rcases g1 with g1|g1
     ·exact(h.im c g1).2.2 n b hx hl hn
     ·have g1:w.heap.size<=c:=g1;have:=(h.own n b hx hl hn).1;omega
 ·have keepN:∀m,σ (.b m)≠none->τ (.b m)≠none:=fun m hm2=>by
   rw[hτb];cases As bout m with
   |some b=>simp
   |none=>exact hm2
  cases k with
  |s t=>
   rw[hτs] at hk2;exact keepN n (h.wf _ _ hk2 n hn)
  |b q=>
   cases it with
   |v x=>
    rw[hτb] at hk2;cases ho:As bout q with
    |some b=>rw[ho] at hk2;injection hk2 with hk2;cases hk2
    |none=>rw[ho] at hk2;exact keepN n (h.wf _ _ hk2 n hn)
   |k b=>
    rcases hτ q b hk2 with ho|⟨_,hx⟩
    ·obtain⟨b',_,_,h3⟩:=hout q b ho;obtain⟨b2,g1,_⟩:=h3 n hn;exact keepN n (by rw[hb _ _ g1];simp)
    ·exact keepN n (h.wf _ _ hx n hn)
 ·exact hkeep c (AjV h1 h.Bo.size) fun hs=>(hSlt c hs).2.elim h2 fun h3=>by omega
end
section
variable {P:Program} {N:Nat} {E:Env P N} {σ τ:St} {a:Act} {w:World} {ρ:Nat->RI} {Im:Nat->Prop}
theorem A8.sub (h:A8 E σ a w ρ Im) (hk:∀k it,τ k=some it->σ k=some it) (hwf:∀k it,τ k=some it->∀nm,it.mentions nm=true->τ (.b nm)≠none):A8 E τ a w ρ Im:=
 ⟨fun t x hx=>h.fr t x (hk _ _ hx),fun n b hb=>h.bk n b (hk _ _ hb),fun n b hb=>h.own n b (hk _ _ hb),fun n1 n2 b1 b2 h1 h2=>h.inj n1 n2 b1 b2 (hk _ _ h1) (hk _ _ h2),
  fun c hc=>⟨(h.im c hc).1,(h.im c hc).2.1,fun n b hb=>(h.im c hc).2.2 n b (hk _ _ hb)⟩,hwf,h.defers,h.size,h.Bo⟩
theorem A8.Ahd (h:A8 E σ a w ρ Im) {nm pn:Nat} (hn:σ (.b nm)≠none) (hf:σ (.b pn)=none):A8 E (σ.upd (.b pn) (some (.k (.pin nm (ρ nm))))) a w ρ Im:=by
 have hne:pn≠nm:=fun e=>hn (e▸hf)
 have hk:∀n b,(σ.upd (.b pn) (some (.k (.pin nm (ρ nm))))) (.b n)=some (.k b)->(n=pn/\b=.pin nm (ρ nm))\/σ (.b n)=some (.k b):=fun n b hb=>by
  by_cases e:pn=n
  ·subst e;rw[St.AM] at hb;injection hb with hb;injection hb with hb
   exact .inl ⟨rfl,hb.symm⟩
  ·rw[St.At _ _ (by intro h2;injection h2 with h2;exact e h2)] at hb;exact .inr hb
 have hl:∀n b,(σ.upd (.b pn) (some (.k (.pin nm (ρ nm))))) (.b n)=some (.k b)->b.live=true->σ (.b n)=some (.k b):=fun n b hb hlv=>by
  rcases hk n b hb with⟨_,rfl⟩|h1
  ·cases hlv
  ·exact h1
 have Bo:∀m,σ (.b m)≠none->(σ.upd (.b pn) (some (.k (.pin nm (ρ nm))))) (.b m)≠none:=fun m hm=>by
  by_cases e:pn=m
  ·subst e;rw[St.AM];simp
  ·rw[St.At _ _ (by intro h2;injection h2 with h2;exact e h2)];exact hm
 refine⟨fun t x hx=>h.fr t x (by rwa [St.At _ _ (by intro e;cases e)] at hx),fun n b hb=>?_,fun n b hb hlv=>h.own n b (hl n b hb hlv) hlv,fun n1 n2 b1 b2 h1 h2 l1 l2=>h.inj n1 n2 b1 b2 (hl _ _ h1 l1) (hl _ _ h2 l2) l1 l2,
  fun c hc=>⟨(h.im c hc).1,(h.im c hc).2.1,fun n b hb hlv=>(h.im c hc).2.2 n b (hl _ _ hb hlv) hlv⟩,fun k it hit n hn2=>?_,h.defers,h.size,h.Bo⟩
 ·rcases hk n b hb with⟨rfl,rfl⟩|h1
  ·rfl
  ·exact h.bk n b h1
 ·by_cases e:(Key.b pn)=k
  ·subst e;rw[St.AM] at hit;injection hit with hit;subst hit
   have:nm=n:=by simpa [Item.mentions,Blk.mentions] using hn2
   subst this;exact Bo _ hn
  ·rw[St.At _ _ e] at hit;exact Bo n (h.wf k it hit n hn2)
def WA (σ:St) (bout:List (Nat×Blk)):St
 |.s t=>σ (.s t)
 |.b n=>match As bout n with|some b=>some (.k b)|none=>σ (.b n)
end
theorem Y8 {P:Program} {N:Nat} {E:Env P N} {σ:St} {l:List (Nat×AV)} {b:List (Nat×Blk)} (f:Nat->Nat) (L:List Nat) (hS:∀b,¬E.S0 b) (hl:WY σ f L l) (hb:∀n x,As b n=some x->∃y,σ (.b (f n))=some (.k y)/\BW σ f L y x)
  (hi:∀n m,(As b n).isSome=true->(As b m).isSome=true->n≠m->f n≠f m) (hL:∀n,(As b n).isSome=true->∀m∈L,f n≠m) (hwf:wfL l b=true):Le E σ (AN l b):=by
 intro a w ⟨ρ,Im,h⟩;have hsb:∀n x,AN l b (.b n)=some (.k x)->As b n=some x:=fun n x hx=>by
  simp only[AN,Akh] at hx;obtain⟨y,hy,e⟩:=hx;injection e with e;subst e
  exact hy
 refine⟨fun n=>ρ (f n),Bk σ ρ Im L,fun t x hx=>?_,fun n x hx=>?_,fun n x hx hlv hn=>?_,fun n1 n2 b1 b2 h1 h2 l1 l2 i1 i2 hne=>?_,
  fun c hc=>⟨?_,Ct h c hc,fun n x hx hlv hn=>?_⟩,I7 hwf,h.defers,h.size,h.Bo⟩
 ·simp only[AN,Akh] at hx;obtain⟨y,hy,e⟩:=hx;injection e with e;subst e
  obtain⟨z,hz,hw⟩:=Gy hl hy;exact hw.ok h (h.fr t z hz)
 ·obtain⟨z,hz,hw⟩:=hb n x (hsb n x hx);exact hw.ok h (h.bk _ z hz)
 ·obtain⟨z,hz,hw⟩:=hb n x (hsb n x hx);exact h.own _ z hz (hw.live hlv) hn
 ·obtain⟨z1,hz1,hw1⟩:=hb _ _ (hsb _ _ h1);obtain⟨z2,hz2,hw2⟩:=hb _ _ (hsb _ _ h2);exact h.inj _ _ z1 z2 hz1 hz2 (hw1.live l1) (hw2.live l2) i1 i2 (hi _ _ (by rw[hsb _ _ h1];rfl) (by rw[hsb _ _ h2];rfl) hne)
 ·rcases hc with hc|⟨nm,_,bk,h1,h2,h3,rfl⟩
  ·exact(h.im c hc).1
  ·rcases (h.own nm bk h1 h2 h3).2 with h4|h4
   ·exact absurd h4 (hS _)
   ·exact .inr h4
 ·obtain⟨z,hz,hw⟩:=hb n x (hsb n x hx);rcases hc with hc|⟨nm,hnm,bk,h1,h2,h3,rfl⟩
  ·exact(h.im c hc).2.2 _ z hz (hw.live hlv) hn
  ·exact h.inj _ _ z bk hz h1 (hw.live hlv) h2 hn h3 (hL n (by rw[hsb n x hx];rfl) nm hnm)
def swN (i n:Nat):Nat:=if n=101 then 8000+i else if n=8000+i then 101 else if n=9101 then 20000+i else if n=20000+i then 9101 else n
theorem Ad0 {i:Nat} (hi:i<100) (n:Nat):swN i (swN i n)=n:=by
 unfold swN
 repeat' split
 all_goals omega
theorem UH {i n:Nat} (h1:n≠101) (h2:n≠9101) (h3:n≠8000+i) (h4:n≠20000+i):swN i n=n:=by
 unfold swN;rw[Akb h1,Akb h3,Akb h2,Akb h4]
theorem X0 {i:Nat}:swN i 101=8000+i:=Akc rfl
theorem AaW {i:Nat} (hi:i<100):swN i 9101=20000+i:=by
 unfold swN;rw[Akb (by omega),Akb (by omega),Akc rfl]
theorem Cs.H8 {g:Nat->Nat} {cs:List C} (h:∀c∈cs,c.names=[]):cs.map (C.ren g)=cs:=by
 have h2:∀c∈cs,C.ren g c=id c:=fun c hc=>by
  have:=h c hc;cases c<;>first|rfl|simp[C.names] at this
 rw[AkS h2,List.map_id]
theorem Css.H8 {g:Nat->Nat} {xs:List (List C)} (h:∀cs∈xs,∀c∈cs,c.names=[]):xs.map (fun cs=>cs.map (C.ren g))=xs:=by
 have h2:∀cs∈xs,(fun cs:List C=>cs.map (C.ren g)) cs=id cs:=fun cs hc=>Cs.H8 (h cs hc)
 rw[AkS h2,List.map_id]
section
variable {P:Program} {N:Nat} {E:Env P N} {ops:Array Oper} {dr:Bool} {σ:St} {tr:Trace} {K:St->Prop} {Q:Exit->St->Prop}
theorem gR {o:Oper} {rest:List Oper} (h:VR E ops dr (o :: rest) σ tr K):VR E ops dr (o :: rest) σ tr K:=h
theorem gO (h:VR E ops dr [] σ tr K):VR E ops dr [] σ tr K:=h
theorem gT {f:St->Prop} {e:Exit} (h:thenQ f Q e σ):thenQ f Q e σ:=h
theorem gK {i:Nat} {e:Exit} (h:blockQ i Q e σ):blockQ i Q e σ:=h
theorem gC {dst ty pos af gd} {rest:List Oper} {f ag at0} (h:VR E ops dr (⟨dst,.call ⟨.value f,ag,at0⟩,ty,pos,af,gd⟩ :: rest) σ tr K):VR E ops dr (⟨dst,.call ⟨.value f,ag,at0⟩,ty,pos,af,gd⟩ :: rest) σ tr K:=h
theorem gI {dst ty pos af gd} {rest:List Oper} {t x y} (h:VR E ops dr (⟨dst,.indexAddr t x y,ty,pos,af,gd⟩ :: rest) σ tr K):VR E ops dr (⟨dst,.indexAddr t x y,ty,pos,af,gd⟩ :: rest) σ tr K:=h
theorem gN {dst ty pos af gd} {rest:List Oper} {x} (h:VR E ops dr (⟨dst,.nilCheck x,ty,pos,af,gd⟩ :: rest) σ tr K):VR E ops dr (⟨dst,.nilCheck x,ty,pos,af,gd⟩ :: rest) σ tr K:=h
theorem gV {dst ty pos af gd} {rest:List Oper} {t u x} (h:VR E ops dr (⟨dst,.convert t u x,ty,pos,af,gd⟩ :: rest) σ tr K):VR E ops dr (⟨dst,.convert t u x,ty,pos,af,gd⟩ :: rest) σ tr K:=h
theorem gB {dst ty pos af gd} {rest:List Oper} {t u x y b} (h:VR E ops dr (⟨dst,.binOp b t x y u,ty,pos,af,gd⟩ :: rest) σ tr K):VR E ops dr (⟨dst,.binOp b t x y u,ty,pos,af,gd⟩ :: rest) σ tr K:=h
theorem gL {dst ty pos af gd} {rest:List Oper} {t x} (h:VR E ops dr (⟨dst,.load t x,ty,pos,af,gd⟩ :: rest) σ tr K):VR E ops dr (⟨dst,.load t x,ty,pos,af,gd⟩ :: rest) σ tr K:=h
theorem gS {dst ty pos af gd} {rest:List Oper} {t x y} (h:VR E ops dr (⟨dst,.store t x y,ty,pos,af,gd⟩ :: rest) σ tr K):VR E ops dr (⟨dst,.store t x y,ty,pos,af,gd⟩ :: rest) σ tr K:=h
theorem gE {dst ty pos af gd} {rest:List Oper} {ag at0} (h:VR E ops dr (⟨dst,.call ⟨.builtin .len,ag,at0⟩,ty,pos,af,gd⟩ :: rest) σ tr K):VR E ops dr (⟨dst,.call ⟨.builtin .len,ag,at0⟩,ty,pos,af,gd⟩ :: rest) σ tr K:=h
theorem gA {dst ty pos af gd} {rest:List Oper} {ag at0} (h:VR E ops dr (⟨dst,.call ⟨.builtin .append,ag,at0⟩,ty,pos,af,gd⟩ :: rest) σ tr K):VR E ops dr (⟨dst,.call ⟨.builtin .append,ag,at0⟩,ty,pos,af,gd⟩ :: rest) σ tr K:=h
theorem gX {dst ty pos af gd} {rest:List Oper} {t x y} (h:VR E ops dr (⟨dst,.index t x y,ty,pos,af,gd⟩ :: rest) σ tr K):VR E ops dr (⟨dst,.index t x y,ty,pos,af,gd⟩ :: rest) σ tr K:=h
end
class StA (g:Prop) (h:outParam Prop):Prop where
 of:h->g
class StR (g:Prop) (h:outParam Prop):Prop where
 of:h->g
class StB (g:Prop) (h:outParam Prop):Prop where
 of:h->g
class StC (g:Prop) (h:outParam Prop):Prop where
 of:h->g
instance stAR {g h:Prop} [i:StA g h]:StR g h:=⟨i.of⟩
instance stRB {g h:Prop} [i:StR g h]:StB g h:=⟨i.of⟩
instance stBC {g h:Prop} [i:StB g h]:StC g h:=⟨i.of⟩
theorem sA {g h:Prop} [i:StA g h] (k:h):g:=i.of k
theorem sR {g h:Prop} [i:StR g h] (k:h):g:=i.of k
theorem sB {g h:Prop} [i:StB g h] (k:h):g:=i.of k
theorem sC {g h:Prop} [i:StC g h] (k:h):g:=i.of k
section
variable {P:Program} {N:Nat} {E:Env P N} {ops:Array Oper} {σ:St} {tr:Trace} {K:St->Prop} {Q:Exit->St->Prop} {next:St->Prop} {id:Nat} {c x y:Code} {l:List Oper}
instance st_nil:StA (VR E ops false [] σ tr K) (K σ):=⟨XG⟩
instance st_tn:StA (thenQ next Q .normal σ) (next σ):=⟨O8⟩
instance st_tx:StA (thenQ next Q (.exit id) σ) (Q (.exit id) σ):=⟨Abi⟩
instance st_tr:StA (thenQ next Q .ret σ) (Q .ret σ):=⟨Abj⟩
instance st_bn:StA (blockQ id Q .normal σ) (Q .normal σ):=⟨Aef⟩
instance st_br:StA (blockQ id Q .ret σ) (Q .ret σ):=⟨Aed⟩
instance st_bx:StA (blockQ id Q (.exit id) σ) (Q .normal σ):=⟨Aec⟩
instance st_sk:StA (VC E .skip Q σ) (Q .normal σ):=⟨SM⟩
instance st_rt:StA (VC E .ret Q σ) (Q .ret σ):=⟨AfO⟩
instance st_ex:StA (VC E (.exit id) Q σ) (Q (.exit id) σ):=⟨Ac9⟩
instance st_rg:StR (VC E (.region id l.toArray false) Q σ) (VR E l.toArray false l σ [] (Q .normal)):=⟨ER⟩
instance st_rd [Aco P]:StR (VC E (.region id l.toArray true) Q σ) (VR E l.toArray true l σ [] (Q .normal)):=⟨LP⟩
instance st_sq:StB (VC E (.seq x y) Q σ) (VC E x (thenQ (VC E y Q) Q) σ):=⟨Dw⟩
instance st_bl:StC (VC E (.block id c) Q σ) (VC E c (blockQ id Q) σ):=⟨BN⟩
theorem fb {f : FuncId} {fn : Func} {N : Nat} {args : List AV} {bin : List (Nat × Blk)} {res : AV} {bout : List (Nat × Blk)} {rs : List ResultVar} (hf : P.funcs[f]? = some fn) (hname : (fn.name == "runtime.NumGoroutine") = false) (hb : fn.body = some x) (hnt : fn.ntmps = N) (hrs : fn.results = rs.toArray) (hlen : Nat.ble args.length N = true) (hwf : Bj args bin = true)
  (hbin:bin=[]) (hnc:res.Pe=true) (h:∀E:Env P N,(∀b,¬E.S0 b)->VC E x (Gk P rs res bout) (D9 args bin)):FnS P f args bin res bout:=FnS.Aeq (enters_of hf hname hb) hf hb hnt hrs hlen hwf hbin hnc h
theorem Ao {f : FuncId} {fn : Func} {N : Nat} {args : List AV} {bin : List (Nat × Blk)} {res : AV} {bout : List (Nat × Blk)} {rs : List ResultVar} (hf : P.funcs[f]? = some fn) (hnt : fn.ntmps = N) (hrs : fn.results = rs.toArray) (h : ∀ E : Env P N, (∀ b, ¬ E.S0 b) -> VC E x (Gk P rs res bout) (D9 args bin)) (hname : (fn.name == "runtime.NumGoroutine") = false := by kernel_rfl) (hb : fn.body = some x := by exact rfl) (hlen : Nat.ble args.length N = true := by exact rfl) (hwf : Bj args bin = true := by exact rfl) (hbin : bin = [] := by exact rfl) (hnc : res.Pe = true := by exact rfl) : FnS P f args bin res bout := fb hf hname hb hnt hrs hlen hwf hbin hnc h
theorem tt0:True:=True.intro
theorem gD {o:Operand} (h:VC E (.cond o x y) Q σ):VC E (.cond o x y) Q σ:=h
def atR (n:Nat):Code->Bool
 |.region m _ _=>Nat.beq m n
 |.seq (.region m _ _) _=>Nat.beq m n
 |_=>false
theorem sq (n:Nat) (h:atR n x=false) (k:VC E x (thenQ (VC E y Q) Q) σ):VC E (.seq x y) Q σ:=Dw k
theorem lg {l:List (Nat×AV)} {b:List (Nat×Blk)} (hl:WY σ (fun n=>n) [] l) (hb:Gz σ (fun n=>n) [] b) (hi:HN (fun n=>n) [] b=true) (hwf:wfL l b=true):Le E σ (AN l b):=A0 (fun n=>n) hl hb hi hwf
end
theorem Cz (a b:Nat) (h:(a:Int)<(b:Int):=by omega):decide ((a:Int)<(b:Int))=true:=Aju h
theorem CM (a b:Nat) (h:¬(a:Int)<(b:Int):=by omega):decide ((a:Int)<(b:Int))=false:=Ajv h
theorem Es (p:Prop) [i:Decidable p] (h:p:=by omega):decide p=true:=Aju h
theorem Cc (p:Prop) [i:Decidable p] (h:¬p:=by omega):decide p=false:=Ajv h
theorem BF {P:Program} {N:Nat} {E:Env P N} {σ:St} {l:List (Nat×AV)} {b:List (Nat×Blk)} (f:Nat->Nat) (hl:WY σ f [] l:=by repeat'(first|exact tt0|refine⟨⟨_,rfl,?_⟩,?_⟩|exact .c .d|exact .clo|exact .c (.ptr rfl)|exact .c (.mp rfl)|exact .c (.row rfl rfl)|exact .c .nil|exact .c (.Bm (by first|(simp;done)|decide) rfl rfl (fun _=>rfl))|exact .c (.Bm (by(simp;done)) rfl rfl (fun _=>rfl))|(refine .c (.row rfl ?_);((try dsimp only);first|(simp only[lns]<;>omega));done)|(refine .c (.row rfl ?_);((try dsimp only);first|rfl|omega|(simp only[lns]<;>omega));done)|(refine .c (.Bm (by(simp;done)) rfl ?_ (fun _=>rfl));((try dsimp only);first|omega);done)|(refine .c (.row rfl ?_);((try dsimp only);first|omega);done)|exact .FA rfl rfl|exact .Abw (fun _=>rfl) rfl|exact .pin rfl|exact .CJ rfl Ai|exact .CJ (CC rfl) Ai|(refine .CJ ?_ Ai;rw[AF];rfl)|(refine .CJ ?_ Ai;simp only[AF,AjP];rfl)|refine .box ?_|exact .nil|refine .cons ?_ ?_|exact .d|exact .row rfl rfl|exact .Bm (by first|(simp;done)|decide) rfl rfl (fun _=>rfl)|exact .Bm (by(simp;done)) rfl rfl (fun _=>rfl)|exact .Bm (by decide) rfl rfl (fun _=>rfl)|(refine .row rfl ?_;((try dsimp only);first|(simp only[lns]<;>omega));done)|(refine .row rfl ?_;((try dsimp only);first|rfl|omega|(simp only[lns]<;>omega));done)|(refine .Bm (by first|(simp;done)|decide) rfl ?_ (fun _=>rfl);((try dsimp only);first|rfl|omega|(simp only[lns]<;>omega));done)|(refine .Bm (by(simp;done)) rfl ?_ (fun _=>rfl);((try dsimp only);first|(simp only[lns]<;>omega));done)|fail)) (hb:Gz σ f [] b:=by repeat'(first|exact tt0|refine⟨⟨_,rfl,?_⟩,?_⟩|exact .c .d|exact .clo|exact .c (.ptr rfl)|exact .c (.mp rfl)|exact .c (.row rfl rfl)|exact .c .nil|exact .c (.Bm (by first|(simp;done)|decide) rfl rfl (fun _=>rfl))|exact .c (.Bm (by(simp;done)) rfl rfl (fun _=>rfl))|(refine .c (.row rfl ?_);((try dsimp only);first|(simp only[lns]<;>omega));done)|(refine .c (.row rfl ?_);((try dsimp only);first|rfl|omega|(simp only[lns]<;>omega));done)|(refine .c (.Bm (by(simp;done)) rfl ?_ (fun _=>rfl));((try dsimp only);first|omega);done)|(refine .c (.row rfl ?_);((try dsimp only);first|omega);done)|exact .FA rfl rfl|exact .Abw (fun _=>rfl) rfl|exact .pin rfl|exact .CJ rfl Ai|exact .CJ (CC rfl) Ai|(refine .CJ ?_ Ai;rw[AF];rfl)|(refine .CJ ?_ Ai;simp only[AF,AjP];rfl)|refine .box ?_|exact .nil|refine .cons ?_ ?_|exact .d|exact .row rfl rfl|exact .Bm (by first|(simp;done)|decide) rfl rfl (fun _=>rfl)|exact .Bm (by(simp;done)) rfl rfl (fun _=>rfl)|exact .Bm (by decide) rfl rfl (fun _=>rfl)|(refine .row rfl ?_;((try dsimp only);first|(simp only[lns]<;>omega));done)|(refine .row rfl ?_;((try dsimp only);first|rfl|omega|(simp only[lns]<;>omega));done)|(refine .Bm (by first|(simp;done)|decide) rfl ?_ (fun _=>rfl);((try dsimp only);first|rfl|omega|(simp only[lns]<;>omega));done)|(refine .Bm (by(simp;done)) rfl ?_ (fun _=>rfl);((try dsimp only);first|(simp only[lns]<;>omega));done)|fail)) (hi:HN f [] b=true:=by exact rfl) (hwf:wfL l b=true:=by first|rfl|exact rfl|(simp only[wfL,wfs,AA,Az];rfl)|(simp only[wfL,wfs];rfl)):Le E σ (AN l b):=A0 f hl hb hi hwf
theorem Al {P:Program} {N:Nat} {E:Env P N} {σ:St} {l:List (Nat×AV)} {b:List (Nat×Blk)} (hl:WY σ (fun n=>n) [] l:=by repeat'(first|exact tt0|refine⟨⟨_,rfl,?_⟩,?_⟩|exact .c .d|exact .clo|exact .c (.ptr rfl)|exact .c (.mp rfl)|exact .c (.row rfl rfl)|exact .c .nil|exact .c (.Bm (by first|(simp;done)|decide) rfl rfl (fun _=>rfl))|exact .c (.Bm (by(simp;done)) rfl rfl (fun _=>rfl))|(refine .c (.row rfl ?_);((try dsimp only);first|(simp only[lns]<;>omega));done)|(refine .c (.row rfl ?_);((try dsimp only);first|rfl|omega|(simp only[lns]<;>omega));done)|(refine .c (.Bm (by(simp;done)) rfl ?_ (fun _=>rfl));((try dsimp only);first|omega);done)|(refine .c (.row rfl ?_);((try dsimp only);first|omega);done)|exact .FA rfl rfl|exact .Abw (fun _=>rfl) rfl|exact .pin rfl|exact .CJ rfl Ai|exact .CJ (CC rfl) Ai|(refine .CJ ?_ Ai;rw[AF];rfl)|(refine .CJ ?_ Ai;simp only[AF,AjP];rfl)|refine .box ?_|exact .nil|refine .cons ?_ ?_|exact .d|exact .row rfl rfl|exact .Bm (by first|(simp;done)|decide) rfl rfl (fun _=>rfl)|exact .Bm (by(simp;done)) rfl rfl (fun _=>rfl)|exact .Bm (by decide) rfl rfl (fun _=>rfl)|(refine .row rfl ?_;((try dsimp only);first|(simp only[lns]<;>omega));done)|(refine .row rfl ?_;((try dsimp only);first|rfl|omega|(simp only[lns]<;>omega));done)|(refine .Bm (by first|(simp;done)|decide) rfl ?_ (fun _=>rfl);((try dsimp only);first|rfl|omega|(simp only[lns]<;>omega));done)|(refine .Bm (by(simp;done)) rfl ?_ (fun _=>rfl);((try dsimp only);first|(simp only[lns]<;>omega));done)|fail)) (hb:Gz σ (fun n=>n) [] b:=by repeat'(first|exact tt0|refine⟨⟨_,rfl,?_⟩,?_⟩|exact .c .d|exact .clo|exact .c (.ptr rfl)|exact .c (.mp rfl)|exact .c (.row rfl rfl)|exact .c .nil|exact .c (.Bm (by first|(simp;done)|decide) rfl rfl (fun _=>rfl))|exact .c (.Bm (by(simp;done)) rfl rfl (fun _=>rfl))|(refine .c (.row rfl ?_);((try dsimp only);first|(simp only[lns]<;>omega));done)|(refine .c (.row rfl ?_);((try dsimp only);first|rfl|omega|(simp only[lns]<;>omega));done)|(refine .c (.Bm (by(simp;done)) rfl ?_ (fun _=>rfl));((try dsimp only);first|omega);done)|(refine .c (.row rfl ?_);((try dsimp only);first|omega);done)|exact .FA rfl rfl|exact .Abw (fun _=>rfl) rfl|exact .pin rfl|exact .CJ rfl Ai|exact .CJ (CC rfl) Ai|(refine .CJ ?_ Ai;rw[AF];rfl)|(refine .CJ ?_ Ai;simp only[AF,AjP];rfl)|refine .box ?_|exact .nil|refine .cons ?_ ?_|exact .d|exact .row rfl rfl|exact .Bm (by first|(simp;done)|decide) rfl rfl (fun _=>rfl)|exact .Bm (by(simp;done)) rfl rfl (fun _=>rfl)|exact .Bm (by decide) rfl rfl (fun _=>rfl)|(refine .row rfl ?_;((try dsimp only);first|(simp only[lns]<;>omega));done)|(refine .row rfl ?_;((try dsimp only);first|rfl|omega|(simp only[lns]<;>omega));done)|(refine .Bm (by first|(simp;done)|decide) rfl ?_ (fun _=>rfl);((try dsimp only);first|rfl|omega|(simp only[lns]<;>omega));done)|(refine .Bm (by(simp;done)) rfl ?_ (fun _=>rfl);((try dsimp only);first|(simp only[lns]<;>omega));done)|fail)) (hi:HN (fun n=>n) [] b=true:=by exact rfl) (hwf:wfL l b=true:=by first|rfl|exact rfl|(simp only[wfL,wfs,AA,Az];rfl)|(simp only[wfL,wfs];rfl)):Le E σ (AN l b):=A0 (fun n=>n) hl hb hi hwf
theorem Cu {P:Program} {N:Nat} {E:Env P N} {σ:St} {l:List (Nat×AV)} {b:List (Nat×Blk)} (f:Nat->Nat) (L:List Nat) (hS:∀b,¬E.S0 b) (hl:WY σ f L l:=by repeat'(first|exact tt0|refine⟨⟨_,rfl,?_⟩,?_⟩|exact .c .d|exact .clo|exact .c (.ptr rfl)|exact .c (.mp rfl)|exact .c (.row rfl rfl)|exact .c .nil|exact .c (.Bm (by first|(simp;done)|decide) rfl rfl (fun _=>rfl))|exact .c (.Bm (by(simp;done)) rfl rfl (fun _=>rfl))|(refine .c (.row rfl ?_);((try dsimp only);first|(simp only[lns]<;>omega));done)|(refine .c (.row rfl ?_);((try dsimp only);first|rfl|omega|(simp only[lns]<;>omega));done)|(refine .c (.Bm (by(simp;done)) rfl ?_ (fun _=>rfl));((try dsimp only);first|omega);done)|(refine .c (.row rfl ?_);((try dsimp only);first|omega);done)|exact .FA rfl rfl|exact .Abw (fun _=>rfl) rfl|exact .pin rfl|exact .CJ rfl Ai|exact .CJ (CC rfl) Ai|(refine .CJ ?_ Ai;rw[AF];rfl)|(refine .CJ ?_ Ai;simp only[AF,AjP];rfl)|refine .box ?_|exact .nil|refine .cons ?_ ?_|exact .d|exact .row rfl rfl|exact .Bm (by first|(simp;done)|decide) rfl rfl (fun _=>rfl)|exact .Bm (by(simp;done)) rfl rfl (fun _=>rfl)|exact .Bm (by decide) rfl rfl (fun _=>rfl)|(refine .row rfl ?_;((try dsimp only);first|(simp only[lns]<;>omega));done)|(refine .row rfl ?_;((try dsimp only);first|rfl|omega|(simp only[lns]<;>omega));done)|(refine .Bm (by first|(simp;done)|decide) rfl ?_ (fun _=>rfl);((try dsimp only);first|rfl|omega|(simp only[lns]<;>omega));done)|(refine .Bm (by(simp;done)) rfl ?_ (fun _=>rfl);((try dsimp only);first|(simp only[lns]<;>omega));done)|fail)) (hb:Gz σ f L b:=by repeat'(first|exact tt0|refine⟨⟨_,rfl,?_⟩,?_⟩|exact .c .d|exact .clo|exact .c (.ptr rfl)|exact .c (.mp rfl)|exact .c (.row rfl rfl)|exact .c .nil|exact .c (.Bm (by first|(simp;done)|decide) rfl rfl (fun _=>rfl))|exact .c (.Bm (by(simp;done)) rfl rfl (fun _=>rfl))|(refine .c (.row rfl ?_);((try dsimp only);first|(simp only[lns]<;>omega));done)|(refine .c (.row rfl ?_);((try dsimp only);first|rfl|omega|(simp only[lns]<;>omega));done)|(refine .c (.Bm (by(simp;done)) rfl ?_ (fun _=>rfl));((try dsimp only);first|omega);done)|(refine .c (.row rfl ?_);((try dsimp only);first|omega);done)|exact .FA rfl rfl|exact .Abw (fun _=>rfl) rfl|exact .pin rfl|exact .CJ rfl Ai|exact .CJ (CC rfl) Ai|(refine .CJ ?_ Ai;rw[AF];rfl)|(refine .CJ ?_ Ai;simp only[AF,AjP];rfl)|refine .box ?_|exact .nil|refine .cons ?_ ?_|exact .d|exact .row rfl rfl|exact .Bm (by first|(simp;done)|decide) rfl rfl (fun _=>rfl)|exact .Bm (by(simp;done)) rfl rfl (fun _=>rfl)|exact .Bm (by decide) rfl rfl (fun _=>rfl)|(refine .row rfl ?_;((try dsimp only);first|(simp only[lns]<;>omega));done)|(refine .row rfl ?_;((try dsimp only);first|rfl|omega|(simp only[lns]<;>omega));done)|(refine .Bm (by first|(simp;done)|decide) rfl ?_ (fun _=>rfl);((try dsimp only);first|rfl|omega|(simp only[lns]<;>omega));done)|(refine .Bm (by(simp;done)) rfl ?_ (fun _=>rfl);((try dsimp only);first|(simp only[lns]<;>omega));done)|fail)) (hi:HN f L b=true:=by exact rfl) (hwf:wfL l b=true:=by first|rfl|exact rfl|(simp only[wfL,wfs,AA,Az];rfl)|(simp only[wfL,wfs];rfl)):Le E σ (AN l b):=DL f L hS hl hb hi hwf
theorem Ajm {P:Program} {N:Nat} {E:Env P N} {Q:Exit->St->Prop} {σ σ':St} {e:Exit} (h:Le E σ σ') (h2:Q e σ'):retL E Q e σ:=Ag h h2
theorem K7 {P:Program} {N:Nat} {E:Env P N} {σ:St} {rs:List ResultVar} {res:AV} {bo:List (Nat×Blk)} {e:Exit} (f:Nat->Nat) (hb:Gz σ f [] bo:=by repeat'(first|exact tt0|refine⟨⟨_,rfl,?_⟩,?_⟩|exact .c .d|exact .clo|exact .c (.ptr rfl)|exact .c (.mp rfl)|exact .c (.row rfl rfl)|exact .c .nil|exact .c (.Bm (by first|(simp;done)|decide) rfl rfl (fun _=>rfl))|exact .c (.Bm (by(simp;done)) rfl rfl (fun _=>rfl))|(refine .c (.row rfl ?_);((try dsimp only);first|(simp only[lns]<;>omega));done)|(refine .c (.row rfl ?_);((try dsimp only);first|rfl|omega|(simp only[lns]<;>omega));done)|(refine .c (.Bm (by(simp;done)) rfl ?_ (fun _=>rfl));((try dsimp only);first|omega);done)|(refine .c (.row rfl ?_);((try dsimp only);first|omega);done)|exact .FA rfl rfl|exact .Abw (fun _=>rfl) rfl|exact .pin rfl|exact .CJ rfl Ai|exact .CJ (CC rfl) Ai|(refine .CJ ?_ Ai;rw[AF];rfl)|(refine .CJ ?_ Ai;simp only[AF,AjP];rfl)|refine .box ?_|exact .nil|refine .cons ?_ ?_|exact .d|exact .row rfl rfl|exact .Bm (by first|(simp;done)|decide) rfl rfl (fun _=>rfl)|exact .Bm (by(simp;done)) rfl rfl (fun _=>rfl)|exact .Bm (by decide) rfl rfl (fun _=>rfl)|(refine .row rfl ?_;((try dsimp only);first|(simp only[lns]<;>omega));done)|(refine .row rfl ?_;((try dsimp only);first|rfl|omega|(simp only[lns]<;>omega));done)|(refine .Bm (by first|(simp;done)|decide) rfl ?_ (fun _=>rfl);((try dsimp only);first|rfl|omega|(simp only[lns]<;>omega));done)|(refine .Bm (by(simp;done)) rfl ?_ (fun _=>rfl);((try dsimp only);first|(simp only[lns]<;>omega));done)|fail)) (hi:HN f [] bo=true:=by exact rfl) (hwf:wfL [] bo=true:=by first|rfl|exact rfl|(simp only[wfL,wfs,AA,Az];rfl)|(simp only[wfL,wfs];rfl)) (he:e=.normal\/e=.ret:=by first|exact Dy|exact Ae) (h1:IJ P (AN [] bo) rs []:=by exact .nil) (h2:res=Wn []:=by exact rfl) (h3:hasB (AN [] bo) bo:=by repeat'(first|exact tt0|refine⟨rfl,?_⟩)):retL E (Gk P rs res bo) e σ:=Ag (A0 (l:=[]) f trivial hb hi hwf) (Jr he h1 h2 h3)
theorem DA {P:Program} {N:Nat} {E:Env P N} {σ:St} {rs:List ResultVar} {res:AV} {bo:List (Nat×Blk)} {e:Exit} (hb:Gz σ (fun n=>n) [] bo:=by repeat'(first|exact tt0|refine⟨⟨_,rfl,?_⟩,?_⟩|exact .c .d|exact .clo|exact .c (.ptr rfl)|exact .c (.mp rfl)|exact .c (.row rfl rfl)|exact .c .nil|exact .c (.Bm (by first|(simp;done)|decide) rfl rfl (fun _=>rfl))|exact .c (.Bm (by(simp;done)) rfl rfl (fun _=>rfl))|(refine .c (.row rfl ?_);((try dsimp only);first|(simp only[lns]<;>omega));done)|(refine .c (.row rfl ?_);((try dsimp only);first|rfl|omega|(simp only[lns]<;>omega));done)|(refine .c (.Bm (by(simp;done)) rfl ?_ (fun _=>rfl));((try dsimp only);first|omega);done)|(refine .c (.row rfl ?_);((try dsimp only);first|omega);done)|exact .FA rfl rfl|exact .Abw (fun _=>rfl) rfl|exact .pin rfl|exact .CJ rfl Ai|exact .CJ (CC rfl) Ai|(refine .CJ ?_ Ai;rw[AF];rfl)|(refine .CJ ?_ Ai;simp only[AF,AjP];rfl)|refine .box ?_|exact .nil|refine .cons ?_ ?_|exact .d|exact .row rfl rfl|exact .Bm (by first|(simp;done)|decide) rfl rfl (fun _=>rfl)|exact .Bm (by(simp;done)) rfl rfl (fun _=>rfl)|exact .Bm (by decide) rfl rfl (fun _=>rfl)|(refine .row rfl ?_;((try dsimp only);first|(simp only[lns]<;>omega));done)|(refine .row rfl ?_;((try dsimp only);first|rfl|omega|(simp only[lns]<;>omega));done)|(refine .Bm (by first|(simp;done)|decide) rfl ?_ (fun _=>rfl);((try dsimp only);first|rfl|omega|(simp only[lns]<;>omega));done)|(refine .Bm (by(simp;done)) rfl ?_ (fun _=>rfl);((try dsimp only);first|(simp only[lns]<;>omega));done)|fail)) (hi:HN (fun n=>n) [] bo=true:=by exact rfl) (hwf:wfL [] bo=true:=by first|rfl|exact rfl|(simp only[wfL,wfs,AA,Az];rfl)|(simp only[wfL,wfs];rfl)) (he:e=.normal\/e=.ret:=by first|exact Dy|exact Ae) (h1:IJ P (AN [] bo) rs []:=by exact .nil) (h2:res=Wn []:=by exact rfl) (h3:hasB (AN [] bo) bo:=by repeat'(first|exact tt0|refine⟨rfl,?_⟩)):retL E (Gk P rs res bo) e σ:=Ag (A0 (l:=[]) (fun n=>n) trivial hb hi hwf) (Jr he h1 h2 h3)
theorem Er {P:Program} {N:Nat} {E:Env P N} {Q:Exit->St->Prop} {σ:St} {c:Code} (n:Nat) (I:Nat->St) (h:Le E σ (I 0)) (r:∀i,i<=n->VC E c (thenQ (fun s=>∃j,j<=n/\n-j<n-i/\Le E s (I j)) Q) (I i)):VC E (.loop c) Q σ:=Ax (ι:=Nat) I (fun k=>k<=n) (fun k=>n-k) 0 (Ake _) h r
theorem BU {A B C:Nat->Prop} (j:Nat) (h:C j) (a:A j:=by omega) (b:B j:=by omega):∃j,A j/\B j/\C j:=⟨j,a,b,h⟩
theorem D8 {k:IntKind} {d:D} (h:Di (.int k) d):∃n,d=.int k n/\(Lit.int k n).wf=true:=by unfold Di at h;exact h
theorem AiC {d:D} (h:Di .bool d):∃n,d=.bool n:=by unfold Di at h;exact h
theorem Ag8 {d:D} (h:Di .str d):∃n:ByteArray,d=.str n/\n.size<=maxLen:=by unfold Di at h;exact h
theorem Gi {P:Program} {N:Nat} {E:Env P N} {Q:Exit->St->Prop} {σ:St} {c:Code} (l:List (Nat×AV)) (b:List (Nat×Blk)) (k:VC E c Q (AN l b)) (h:Le E σ (AN l b):=by exact Al):VC E c Q σ:=VC.le h k
theorem HX {g h:Prop} (k:h) (s:h->g:=by intro k;first|exact sA k|exact J4 k|(refine gN ?_;exact B8 k)|(refine gI ?_;exact A5 k)|(refine gD ?_;first|exact Cy k|exact E0 k|exact HW k)|exact FR k|exact GG k):g:=s k
theorem Ad {g h:Prop} (k:h) (s:h->g:=by intro k;first|exact sB k|exact J4 k|(refine gN ?_;exact B8 k)|(refine gI ?_;exact A5 k)|(refine gD ?_;first|exact Cy k|exact E0 k|exact HW k)|exact FR k|exact GG k):g:=s k
theorem Af {g h:Prop} (k:h) (s:h->g:=by intro k;first|exact sC k|exact J4 k|(refine gN ?_;exact B8 k)|(refine gI ?_;exact A5 k)|(refine gD ?_;first|exact Cy k|exact E0 k|exact HW k)|exact FR k|exact GG k):g:=s k
theorem AJ {g h:Prop} (k:h) (s:h->g:=by intro k;first|exact sR k|exact J4 k|(refine gN ?_;exact B8 k)|(refine gI ?_;exact A5 k)|(refine gD ?_;first|exact Cy k|exact E0 k|exact HW k)|exact FR k|exact GG k):g:=s k
theorem Av {g a b:Prop} (ka:a) (kb:b) (s:a->b->g:=by intro ka kb;first|exact Uu ka kb|(refine gD ?_;exact Aao ka kb)):g:=s ka kb
theorem Bn {P:Program} {t:TypeId} {ti:TyI} (und:((P.underlying t).map ti.k.fits)=some true:=by kernel_rfl) (info:(P.info? t).map (fun i=>(i.size,i.bytes,i.zero))=some (ti.size,ti.bytes,some ti.zero):=by kernel_rfl):AT P t ti:=⟨und,info⟩
abbrev Au:Value:=.int .i64 0
end Go.Sx
