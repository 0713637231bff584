/-
  Functions' results, and laws on them. No condition.
-/
import Derived.Test.YtdlcbilgemnomaaGreatSxMak
set_option linter.unusedSimpArgs false
set_option linter.unusedVariables false
set_option maxHeartbeats 16000000
open Go.Proofs.Tryz
namespace Go.Proofs
open Go Go.Sx Go.Proofs.T Go.Proofs.Q
set_option maxRecDepth 4000
attribute [local irreducible] VR VC thenQ blockQ retL
theorem H4 (s:Sta) (slot:Int) (hck:AU s=0) (hs:0<=slot/\slot<=109951162):FnS Tryz.prog 171 [stA s,AI slot] [] (.tup [.c (.ptr 100 0),AI 0]) [(100,.box (wcs s (.row 101 s.held.length) (.row 102 s.seen.length) slot (atM s.tb slot).1)),(101,.row 110 5 (rowOf Hd.enc s.held)),(102,.row 123 2 (rowOf Sn.enc s.seen))]:=by
 have hc:=D1 s;rw[hck] at hc;refine Ao func171 ntmps171 results171 fun E hS=>?_
 refine AG ?_
 repeat'(first|refine Ad ?_|refine Aa (hc) ?_|refine Aa (B0 _ _) ?_|refine Aa (D7 s hck) ?_|refine Aa (PM s.tb slot) ?_|(refine Av ?_ ?_<;>intro h hq)|fail)
 all_goals try (exfalso;omega)
 exact Ag (BF (l:=[(4,.c (.ptr 100 0)),(5,AI 0)]) (b:=[(100,.box (wcs s (.row 101 s.held.length) (.row 102 s.seen.length) slot (atM s.tb slot).1)),(101,.row 110 5 (rowOf Hd.enc s.held)),(102,.row 123 2 (rowOf Sn.enc s.seen))]) (fun n=>if n=100 then 17 else if n=101 then 14101 else if n=102 then 14102 else n)) (Jr Ae (.tmp rfl rfl (.tmp rfl rfl .nil)) rfl (by repeat'(first|exact tt0|refine⟨rfl,?_⟩)))
theorem Qn (s:Sta) (slot:Int) (hck:¬AU s=0):Ak 171 [stA s,AI slot] (.tup [AD (.raw (.pointer none)),AI 1]):=by
 have hc:=D1 s;have hd:decide (AU s≠0)=true:=by simp[hck]
 refine Ao func171 ntmps171 results171 fun E hS=>?_
 repeat'(first|refine Ad ?_|refine Aa (hc) ?_|fail)
 exact Bg
theorem LV (s:Sta) (slot:Int) (hck:AU s=0) (hs:¬(0<=slot/\slot<=109951162)):Ak 171 [stA s,AI slot] (.tup [AD (.raw (.pointer none)),AI 2]):=by
 have hc:=D1 s;rw[hck] at hc;have hd:(!decide (0<=slot/\slot<=109951162))=true:=by simp only[Bool.not_eq_true',Ajx];exact hs
 refine Ao func171 ntmps171 results171 fun E hS=>?_
 repeat'(first|refine Ad ?_|refine Aa (hc) ?_|refine Aa (B0 _ _) ?_|fail)
 exact Bg
theorem Acj (s:Sta) (slot:Int):Ak 127 [stA s,AI slot] (.tup [acA (Hs s slot).1,AI (Hs s slot).2]):=by
 refine Ao func127 ntmps127 results127 fun E hS=>?_
 by_cases hck:AU s=0
 ·by_cases hs:0<=slot/\slot<=109951162
  ·have e:Hs s slot=(CA s slot (atM s.tb slot).1,0):=by rw[Hs,Akb (by omega),Akb (by omega)]
   rw[e]
   repeat'(first|refine Ad ?_|refine Aa (H4 s slot hck hs) ?_|refine AK [11100,11101,11102] (CH s slot (atM s.tb slot).1 hck) ?_|fail)
   exact Aj
  ·have e:Hs s slot=(zAc,2):=by rw[Hs,Akb (by omega),Akc (by omega)]
   rw[e]
   repeat'(first|refine Ad ?_|refine Aa (LV s slot hck hs) ?_|fail)
   exact Aj
 ·have e:Hs s slot=(zAc,1):=by rw[Hs,Akc hck]
  rw[e]
  repeat'(first|refine Ad ?_|refine Aa (Qn s slot hck) ?_|fail)
  exact Aj
theorem EI {s:Sta} (h:Ti s=true):0<=s.list/\s.list<=255/\0<=s.seq/\s.seq<=255/\0<=s.back/\s.back<=5/\0<=s.wait/\s.wait<=2^s.back.toNat-1/\0<=s.Cq/\s.Cq<=2147483647:=AjT h
theorem WO (s:Sta) (slot:Int) (c:TC) (id:Int) (hsq:0<=s.seq/\s.seq<=255):FnW Tryz.prog 241 [.c (.ptr 100 0),AI id] [(100,.box (wcs s (.d (hds s.held)) (.row 102 s.seen.length) slot c)),(102,.row 123 2 (rowOf Sn.enc s.seen))] [100,102] (.tup []) [(100,.box (wcs (Fi s id) (.d (hds s.held)) (.row 102 s.seen.length) slot c)),(102,.row 123 2 (rowOf Sn.enc s.seen))]:=by
 intro r;simp only[Ch,Akq,Aku,Akt,Akp,Nat.reduceAdd];refine FnS.Bv (enters_of func241 (by kernel_rfl) rfl) func241 rfl ntmps241 results241 rfl (by first|rfl|(simp only[BC,wfL,Bj,wfs,AA,Az];rfl)) rfl fun E=>?_
 refine AG ?_
 repeat'(first|refine Ad ?_|refine Aa (Q.XU s.qu id) ?_|fail)
 exact Ag (Al (l:=[]) (b:=[(9100,.pin 100 (r 100)),(9102,.pin 102 (r 102)),(100,.box (wcs (Fi s id) (.d (hds s.held)) (.row 102 s.seen.length) slot c)),(102,.row 123 2 (rowOf Sn.enc s.seen))])) (Jr Dy .nil rfl (by exact⟨rfl,rfl,rfl,rfl,tt0⟩))
theorem V2 (s:Sta) (slot:Int) (c:TC) (AH:Bool) (hck:AU s=0):FnW Tryz.prog 177 [.c (.ptr 100 0),AB AH] [(100,.box (wcs s (.d (hds s.held)) (.row 102 s.seen.length) slot c)),(102,.row 123 2 (rowOf Sn.enc s.seen))] [100,102] (.tup []) [(100,.box (wcs (Cm s c AH) (.d (hds s.held)) (.row 102 s.seen.length) slot c)),(102,.row 123 2 (rowOf Sn.enc s.seen))]:=by
 obtain⟨_,_,_,_,_,hty,hr⟩:=Ba hck;have hr:=EI hr;have hty:=AjT hty;intro r;simp only[Ch,Akq,Aku,Akt,Akp,Nat.reduceAdd];refine FnS.Bv (enters_of func177 (by kernel_rfl) rfl) func177 rfl ntmps177 results177 rfl (by first|rfl|(simp only[BC,wfL,Bj,wfs,AA,Az];rfl)) rfl fun E=>?_
 refine AG ?_;have hpw:=(Aei (min (s.back+1) 5)).resolve_left (by omega) |>.resolve_left (by omega);have e1:(BG s c).to=-1->Cm s c AH=Fi s (BG s c).id:=fun h=>Akc h
 have e2:¬(BG s c).to=-1->AH=true\/4<=CK s c->¬c.kind=3->Cm s c AH=Fi s (BG s c).id:=fun h h1 h2=>by rw[Cm,Akb h,Akc h1,TZ,Akb h2]
 have e3:¬(BG s c).to=-1->AH=true\/4<=CK s c->c.kind=3->Cm s c AH={Fi s (BG s c).id with back:=0,wait:=0}:=fun h h1 h2=>by rw[Cm,Akb h,Akc h1,TZ,Akc h2]
 have e4:¬(BG s c).to=-1->AH=false->CK s c<4->¬c.kind=3->Cm s c AH={s with A6:=(BG s c).id,tries:=CK s c}:=fun h h1 h2 h3=>by rw[Cm,Akb h,Akb (by rw[h1];simp;omega),Nm,Akb h3]
 have e5:¬(BG s c).to=-1->AH=false->CK s c<4->c.kind=3->Cm s c AH={s with A6:=(BG s c).id,tries:=CK s c,back:=min (s.back+1) 5,Cq:=Bw s.Cq,wait:=Bw s.Cq/65536 % 2^(min (s.back+1) 5).toNat}:=fun h h1 h2 h3=>by rw[Cm,Akb h,Akb (by rw[h1];simp;omega),Nm,Akc h3];rfl
 have t1:s.A6=(BG s c).id->CK s c=s.tries+1:=fun h=>Akc h
 have t2:¬s.A6=(BG s c).id->CK s c=1:=fun h=>Akb h
 repeat'(first|refine AJ ?_|refine AK [100,102] (Ya s slot c) ?_|refine A1 (nmL []) [] [100,102] (WO s slot c (BG s c).id ⟨hr.2.2.1,hr.2.2.2.1⟩) ?_|refine sq 14 rfl ?_|(refine Av ?_ ?_<;>intro h hq)|fail)
 ·rw[e1 hq];exact DA
 ·rw[e2 (by assumption) (.inl (by assumption)) hq];exact DA
 ·rw[e3 (by assumption) (.inl (by assumption)) hq];exact DA
 ·have ht:=t1 (by assumption);rw[e2 (by assumption) (.inr (by omega)) hq];exact DA
 ·have ht:=t1 (by assumption);rw[e3 (by assumption) (.inr (by omega)) hq];exact DA
 ·have ht:=t1 (by assumption);rw[e4 (by assumption) (by assumption) (by omega) hq,ht];exact DA
 ·have ht:=t1 (by assumption);rw[e5 (by assumption) (by assumption) (by omega) hq,ht];obtain⟨t,hte⟩:∃t:Sta,t={s with A6:=(BG s c).id,tries:=s.tries+1,back:=min (s.back+1) 5}:=⟨_,rfl⟩;have hts:t.Cq=s.Cq:=by rw[hte]
  have htb:t.back=min (s.back+1) 5:=by rw[hte]
  rw[<-htb] at hpw;have eX:({s with A6:=(BG s c).id,tries:=s.tries+1,back:=min (s.back+1) 5,Cq:=Bw s.Cq,wait:=Bw s.Cq/65536 % 2^(min (s.back+1) 5).toNat}:Sta)={t with Cq:=Bw t.Cq,wait:=Bw t.Cq/65536 % 2^t.back.toNat}:=by rw[hte]
  rw[eX];refine Gi [(0,.c (.ptr 100 0))] [(9100,.pin 100 (r 100)),(9102,.pin 102 (r 102)),(100,.box (wcs {s with A6:=(BG s c).id,tries:=s.tries+1,back:=min (s.back+1) 5} (.d (hds s.held)) (.row 102 s.seen.length) slot c)),(102,.row 123 2 (rowOf Sn.enc s.seen))] ?_;rw[<-hte]
  repeat'(first|refine Ad ?_|refine LI (gk rfl) rfl rfl (by omega) rfl (by omega) ?_|fail)
  refine Ag (A0 (l:=[]) (b:=[(9100,.pin 100 (r 100)),(9102,.pin 102 (r 102)),(100,.box (wcs {t with Cq:=Bw t.Cq,wait:=Bw t.Cq/65536 % 2^t.back.toNat} (.d (hds s.held)) (.row 102 s.seen.length) slot c)),(102,.row 123 2 (rowOf Sn.enc s.seen))]) (fun n=>n) ?_ ?_ rfl (by(simp only[wfL,wfs,AA,Az];rfl))) (Jr Dy .nil rfl (by exact⟨rfl,rfl,rfl,rfl,tt0⟩))
  all_goals repeat'(first|exact tt0|refine⟨⟨_,rfl,?_⟩,?_⟩|exact .pin rfl|exact .CJ rfl Ai|refine .box ?_|exact .nil|refine .cons ?_ ?_|exact .d|exact .row rfl rfl|fail)
  exact AgW (by rw[Int.one_mul];rfl)
 ·rw[e2 (by assumption) (.inl (by assumption)) hq];exact DA
 ·rw[e3 (by assumption) (.inl (by assumption)) hq];exact DA
 ·have ht:=t2 (by assumption);rw[e4 (by assumption) (by assumption) (by omega) hq,ht];exact DA
 ·have ht:=t2 (by assumption);rw[e5 (by assumption) (by assumption) (by omega) hq,ht];obtain⟨t,hte⟩:∃t:Sta,t={s with A6:=(BG s c).id,tries:=1,back:=min (s.back+1) 5}:=⟨_,rfl⟩;have hts:t.Cq=s.Cq:=by rw[hte]
  have htb:t.back=min (s.back+1) 5:=by rw[hte]
  rw[<-htb] at hpw;have eX:({s with A6:=(BG s c).id,tries:=1,back:=min (s.back+1) 5,Cq:=Bw s.Cq,wait:=Bw s.Cq/65536 % 2^(min (s.back+1) 5).toNat}:Sta)={t with Cq:=Bw t.Cq,wait:=Bw t.Cq/65536 % 2^t.back.toNat}:=by rw[hte]
  rw[eX];refine Gi [(0,.c (.ptr 100 0))] [(9100,.pin 100 (r 100)),(9102,.pin 102 (r 102)),(100,.box (wcs {s with A6:=(BG s c).id,tries:=1,back:=min (s.back+1) 5} (.d (hds s.held)) (.row 102 s.seen.length) slot c)),(102,.row 123 2 (rowOf Sn.enc s.seen))] ?_;rw[<-hte]
  repeat'(first|refine Ad ?_|refine LI (gk rfl) rfl rfl (by omega) rfl (by omega) ?_|fail)
  refine Ag (A0 (l:=[]) (b:=[(9100,.pin 100 (r 100)),(9102,.pin 102 (r 102)),(100,.box (wcs {t with Cq:=Bw t.Cq,wait:=Bw t.Cq/65536 % 2^t.back.toNat} (.d (hds s.held)) (.row 102 s.seen.length) slot c)),(102,.row 123 2 (rowOf Sn.enc s.seen))]) (fun n=>n) ?_ ?_ rfl (by(simp only[wfL,wfs,AA,Az];rfl))) (Jr Dy .nil rfl (by exact⟨rfl,rfl,rfl,rfl,tt0⟩))
  all_goals repeat'(first|exact tt0|refine⟨⟨_,rfl,?_⟩,?_⟩|exact .pin rfl|exact .CJ rfl Ai|refine .box ?_|exact .nil|refine .cons ?_ ?_|exact .d|exact .row rfl rfl|fail)
  exact AgW (by rw[Int.one_mul];rfl)
abbrev Py:List DV->DV->Prop:=fun ds r=>∃x y:Sn,ds=[.agg x.enc,.agg y.enc]/\r=.d (.int .i64 (IW x.node y.node))
theorem JD (l:List Sn) (y:Sn) (hl:l.length<=1000000):Ak 247 [AD (sns l),snA y,.clo Py] (.tup [AI (bsK Sn.node l y.node),AB (fdK Sn.node l y.node)]):=by
 refine Ao func247 ntmps247 results247 fun E hS=>?_
 repeat'(first|refine Af ?_|fail)
 refine Ax (ι:=Nat×Nat) (fun p=>AN [(0,AD (sns l)),(2,.clo Py),(4,.c (.ptr 4 0)),(8,AI l.length),(9,AI p.1),(10,AI p.2)] [(4,.box y.cs)])
  (fun p=>p.1<=p.2/\p.2<=l.length/\bs (fun i=>decide ((l.getD i default).node<y.node)) p.1 p.2=bsK Sn.node l y.node) (fun p=>p.2-p.1) (0,l.length) ⟨Ake _,Akd _,rfl⟩ ?_ ?_
 ·exact Al
 ·rintro⟨i,j⟩ ⟨h1,h2,h3⟩;dsimp only at h1 h2 h3 ⊢
  repeat'(first|refine Af ?_|refine F4 (⟨_,_,rfl,rfl⟩) (gk rfl) rfl rfl rfl rfl ?_|refine A5 ?_|refine EO (gk rfl) rfl rfl rfl rfl (by omega) rfl ?_|refine A7 ?_|refine P6 (m:=1) (gk rfl) rfl rfl rfl (by decide) rfl ?_|(refine Av ?_ ?_<;>intro h hq)|fail)
  ·have e:(((i:Int)+(j:Int))/2^1).toNat=(i+j)/2:=by omega
   rw[e] at hq;refine⟨((i+j)/2+1,j),⟨by dsimp only;omega,h2,?_⟩,by dsimp only;omega,?_⟩
   ·rw[<-h3]
    conv=>rhs;rw[bs,Akc (by omega)]
    rw[Akc];exact Aju (FP.1 hq)
   ·dsimp only;exact Al
  ·have e:(((i:Int)+(j:Int))/2^1).toNat=(i+j)/2:=by omega
   rw[e] at hq;refine⟨(i,(i+j)/2),⟨by dsimp only;omega,by dsimp only;omega,?_⟩,by dsimp only;omega,?_⟩
   ·rw[<-h3]
    conv=>rhs;rw[bs,Akc (by omega)]
    rw[Akb];rw[Ajw,<-FP];exact Int.not_lt.2 hq
   ·dsimp only;exact Al
  all_goals(have e0:bsK Sn.node l y.node=i:=by
             rw[<-h3,bs,Akb (by omega)])
  all_goals refine IP Ae rfl rfl (by rw[e0]) ?_
  ·rw[fdK,e0,Aju (p:=i<l.length) (by omega),AkZ];exact congrArg D.bool (decide_eq_decide.2 M5.symm)
  ·rw[fdK,e0,Ajv (p:=i<l.length) (by omega)];rfl
theorem TU (x y:Sn):Ak 248 [snA x,snA y] (AI (IW x.node y.node)):=by
 refine Ao func248 ntmps248 results248 fun E hS=>?_
 repeat'(first|refine Ad ?_|refine Aa (Iv _ _) ?_|fail)
 all_goals exact AZ
theorem Ol {σ:St} {L:List Nat}:AR Tryz.prog σ L (.fnc 248 []) (.clo Py):=
 .fnc .nil (enters_of func248 (by kernel_rfl) rfl) (by rintro _ _ ⟨x,t,rfl,rfl⟩;exact⟨rfl,TU x t⟩)
theorem AbE (l:List Sn) (x:Sn):Ak 292 [AD (sns l),snA x] (AI (oI (Ft l fun y=>decide (x=y)))):=by
 refine Ao func292 ntmps292 results292 fun E hS=>?_
 refine Bz (t:=0) rfl fun hb=>?_
 repeat'(first|refine Af ?_|fail)
 refine Ax (ι:=Nat) (fun k=>AN [(0,AD (sns l)),(3,.c (.ptr 3 0)),(7,AI l.length),(8,AI k)] [(3,.box x.cs)]) (fun k=>k<=l.length/\∀i,i<k->decide (x=l.getD i default)=false) (fun k=>l.length-k) 0 ⟨Ake _,fun i hi=>absurd hi (Aj9 _)⟩ ?_ ?_
 ·exact Al
 ·intro k hk
  repeat'(first|refine Af ?_|refine XK (gk rfl) rfl rfl rfl rfl rfl rfl rfl ?_|(refine Av ?_ ?_<;>intro h hq)|fail)
  ·refine Aw Ae rfl ?_;rw[C2 (l:=l) (p:=fun y=>decide (x=y)) hk.2 (by omega) (Aju (Agl hq))];rfl
  ·refine⟨k+1,⟨by omega,fun i hi=>?_⟩,by omega,?_⟩
   ·by_cases hik:i<k
    ·exact hk.2 i hik
    ·have:i=k:=by omega
     subst this;exact Ajv fun e=>hq (Agk e)
   ·exact Al
  ·refine Aw Ae rfl ?_;have:k=l.length:=by omega
   subst this;rw[CF (l:=l) (p:=fun y=>decide (x=y)) hk.2];rfl
theorem M1 (l:List Sn) (x:Sn):Ak 246 [AD (sns l),snA x] (AB (l.any fun y=>decide (x=y))):=by
 refine Ao func246 ntmps246 results246 fun E hS=>?_
 repeat'(first|refine Ad ?_|refine Aa (AbE l x) ?_|fail)
 all_goals exact Aq Ae rfl (EL _ _).symm
instance AiV:Overlaps Tryz.prog 293:=
 ⟨38,4,123,2,AT.slice Tryz.Acw rfl,fun w=>AT.Bx Tryz.XY w,fun args w=>run_callFunc_extern func293 (by kernel_rfl) (by kernel_rfl) (by kernel_rfl) (by kernel_rfl) args w⟩
abbrev Sn1 (x:Sn):D:=.rd 1 2 fun _ j=>(Sn.enc x).getD j .Df
theorem Oi (l:List Sn) (i:Nat) (x:Sn):rowOf Sn.enc (BA l i x)=List.take i (rowOf Sn.enc l)++(Sn.enc x).map C.d :: List.drop i (rowOf Sn.enc l):=by
 rw[BA,AF,Dj,Fv]
 rfl
theorem Zg (l:List Sn) (i:Nat) (x:Sn) (hl:l.length<=100000) (hi:i<=l.length):FnS Tryz.prog 249 [.c (.row 0 l.length),AI i,AD (Sn1 x)] [(0,.row 123 2 (rowOf Sn.enc l))]
  (.c (.row 1 (l.length+1))) [(1,.row 123 2 (rowOf Sn.enc (BA l i x)))]:=by
 refine FnS.Bv (enters_of func249 (by kernel_rfl) rfl) func249 rfl ntmps249 results249 rfl (by first|rfl|(simp only[BC,wfL,Bj,wfs,AA,Az];rfl)) rfl fun E=>?_
 refine AG ?_
 repeat'(first|refine AJ ?_|refine AQ ?_|refine Ap ?_|refine Bb ?_|refine sq 8 rfl ?_|(refine Av ?_ ?_<;>intro h hq)|fail)
 ·have e:i=l.length:=by omega
  subst e;refine Ag (A0 (l:=[(6,.c (.row 1 (l.length+1)))]) (b:=[(1,.row 123 2 (rowOf Sn.enc (BA l l.length x)))]) (fun n=>if n=1 then 25 else n) ⟨⟨_,rfl,.c (.row rfl rfl)⟩,tt0⟩
   ⟨⟨_,rfl,.CJ ?_ Ai⟩,tt0⟩ rfl (by simp only[wfL,wfs];rfl)) (BI Ae rfl rfl)
  rw[BA,AkB,List.drop_length,AF]
  rfl
 ·refine E4 (nm:=0) rfl (F6 (by omega)) fun cp spare hcp hmax=>?_
  rw[An] at hcp
  repeat'(first|refine AJ ?_|refine GJ (gk rfl) rfl rfl rfl (by exact .full) (by omega) rfl rfl rfl ?_|refine DO (gk rfl) rfl rfl rfl rfl rfl rfl rfl rfl rfl rfl (by omega) (by(simp only[lns];omega)) (by omega) (by(try dsimp only);omega) rfl rfl ?_|refine BT ?_|refine Bb ?_|refine Hy (gk rfl) rfl rfl (by exact .sub) rfl (by first|exact .src .rd|exact .tail rfl (by(simp only[lns];omega)) (by omega)) rfl rfl rfl (by(simp only[lns];omega)) (by omega) rfl ?_|refine GK (gk rfl) rfl rfl rfl rfl ?_|refine sq 10 rfl ?_|(refine Av ?_ ?_<;>intro h hq)|fail)
  ·have hq1:((l.length:Int)+(1:Nat)-i).toNat=l.length+1-i:=by omega
   refine E4 (nm:=40) rfl (by
    intro e;have:=congrArg List.length e;rw[Ajy,AjH] at this;change _+_=0 at this;omega) fun cp2 spare2 hcp2 hmax2=>?_
   rw[Ajy,AjH,AjD,An] at hcp2
   repeat'(first|refine Ad ?_|refine Bb ?_|refine Hy (gk rfl) rfl rfl (by exact .sub) rfl (by first|exact .src .rd|exact .src (.sub rfl (by exact .full) (by(simp only[lns];omega)))) rfl rfl rfl (by(simp only[lns];omega)) (by omega) rfl ?_|fail)
   refine Ag (A0 (l:=[(6,.c (.row 1 (l.length+1)))]) (b:=[(1,.row 123 2 (rowOf Sn.enc (BA l i x)))]) (fun n=>if n=1 then 40 else n) ⟨⟨_,rfl,.c (.row rfl (by omega))⟩,tt0⟩
    ⟨⟨_,rfl,.KW (l.length+1) ?_⟩,tt0⟩ rfl (by simp only[wfL,wfs];rfl)) (BI Ae rfl rfl)
   rw[hq1,show min 1 (i+(l.length+1-i)-i)=1 by omega,show min (l.length-i) (i+(l.length+1-i)-(i+1))=l.length-i by omega];exact(Lv (y:=(Sn.enc x).map C.d) (An (enc:=Sn.enc)) (by omega) rfl).trans (Oi l i x).symm
  ·refine Ag (A0 (l:=[(6,.c (.row 1 (l.length+1)))]) (b:=[(1,.row 123 2 (rowOf Sn.enc (BA l i x)))]) (fun n=>if n=1 then 0 else n) ⟨⟨_,rfl,.c (.row rfl rfl)⟩,tt0⟩
    ⟨⟨_,rfl,.KW (l.length+1) ?_⟩,tt0⟩ rfl (by simp only[wfL,wfs];rfl)) (BI Ae rfl rfl)
   rw[show min 1 (l.length+1-i)=1 by omega,show min (l.length+1-i) (l.length+1-(i+1))=l.length-i by omega];exact(Lu (y:=(Sn.enc x).map C.d) (An (enc:=Sn.enc)) (by omega)).trans (Oi l i x).symm
def HC (f:Fr):Sn:=⟨f.source,f.seq⟩
def SZ (s:Sta) (f:Fr):List Sn:=GI Sn.node s.seen (HC f)
def YR (s:Sta) (f:Fr):Bool:=match Kv s.held f.BR with|none=>true|some i=>decide ((s.held.getD i default).frame≠f.number)
def AgA (s:Sta) (f:Fr):Bool:=!s.seen.any fun y=>decide (HC f=y)
def BE (s:Sta) (f:Fr):Sta×Up:=
 if ML f s.tb.node=false\/f.kind=2 then(s,zUp)
 else if f.kind=1 then(s,Sq f (YR s f))
 else if f.kind=4/\f.target=s.tb.node then({s with seen:=SZ s f},Sq f (AgA s f))
 else(s,Sq f true)
theorem LZ {l:List Sn} (h:Gn l=true):OA Sn.node l:=L6 fun i hi h0=>(OV h i hi).2.2.2.2 h0
theorem DF (s:Sta) (slot:Int) (c:TC) (f:Fr) (hsn:Gn s.seen=true):FnW Tryz.prog 179 [.c (.ptr 100 0),frA f] [(100,.box (wcs s (.d (hds s.held)) (.row 102 s.seen.length) slot c)),(102,.row 123 2 (rowOf Sn.enc s.seen))] [100] (upA (BE s f).2) [(100,.box (wcs (BE s f).1 (.d (hds s.held)) (.row 103 (BE s f).1.seen.length) slot c)),(103,.row 123 2 (rowOf Sn.enc (BE s f).1.seen))]:=by
 have hsl:=JC hsn;have hri:=LZ hsn;have hbs:=(J0 hri (HC f).node).1;have hbs':bsK Sn.node s.seen (HC f).node<=s.seen.length:=hbs;have hud:=SQ (x:=HC f) hri;intro r;simp only[Ch,Akq,Aku,Akt,Akp,Nat.reduceAdd];refine FnS.Bv (enters_of func179 (by kernel_rfl) rfl) func179 rfl ntmps179 results179 rfl (by first|rfl|(simp only[BC,wfL,Bj,wfs,AA,Az];rfl)) rfl fun E=>?_
 refine AG ?_;cases hfo:ML f s.tb.node with
 |false=>
  have e:BE s f=(s,zUp):=Akc (.inl hfo);have hd:(!ML f s.tb.node)=true:=by rw[hfo];rfl
  rw[e]
  repeat'(first|refine Ad ?_|refine Aa (Ha f s.tb.node) ?_|fail)
  exact Ag (BF (l:=[(4,.c (.ptr 4 0))]) (b:=[(9100,.pin 100 (r 100)),(4,.box zUp.cs),(100,.box (wcs s (.d (hds s.held)) (.row 103 s.seen.length) slot c)),(103,.row 123 2 (rowOf Sn.enc s.seen))]) (fun n=>if n=103 then 102 else n)) (Jr Ae (.agg rfl rfl rfl rfl .nil) rfl (by repeat'(first|exact tt0|refine⟨rfl,?_⟩)))
 |true=>
  have hd:(!ML f s.tb.node)=false:=by rw[hfo];rfl
  by_cases h2:f.kind=2
  ·have e:BE s f=(s,zUp):=Akc (.inr h2);have hd2:=Aju h2;rw[e]
   repeat'(first|refine Ad ?_|refine Aa (Ha f s.tb.node) ?_|fail)
   exact Ag (BF (l:=[(4,.c (.ptr 4 0))]) (b:=[(9100,.pin 100 (r 100)),(4,.box zUp.cs),(100,.box (wcs s (.d (hds s.held)) (.row 103 s.seen.length) slot c)),(103,.row 123 2 (rowOf Sn.enc s.seen))]) (fun n=>if n=103 then 102 else n)) (Jr Ae (.agg rfl rfl rfl rfl .nil) rfl (by repeat'(first|exact tt0|refine⟨rfl,?_⟩)))
  have hd2:=Ajv h2;have e0:BE s f=if f.kind=1 then(s,Sq f (YR s f)) else if f.kind=4/\f.target=s.tb.node then({s with seen:=SZ s f},Sq f (AgA s f)) else(s,Sq f true):=by
   rw[BE,Akb (by rintro(h|h);rw[hfo] at h;cases h;exact h2 h)]
  by_cases h1:f.kind=1
  ·have hd1:=Aju h1;rw[Akc h1] at e0;rw[e0];have hho:=Ku s slot c f.BR;cases hf:Kv s.held f.BR with
   |none=>
    have e1:YR s f=true:=by rw[YR,hf]
    rw[hf] at hho;have hho':Ak 175 [wP s slot c,AI f.BR] (AI (-1)):=hho;rw[e1]
    repeat'(first|refine Af ?_|refine Aa (Ha f s.tb.node) ?_|refine AK [100,102] (hho') ?_|fail)
    exact Ag (BF (l:=[(4,.c (.ptr 4 0))]) (b:=[(9100,.pin 100 (r 100)),(4,.box (Sq f true).cs),(100,.box (wcs s (.d (hds s.held)) (.row 103 s.seen.length) slot c)),(103,.row 123 2 (rowOf Sn.enc s.seen))]) (fun n=>if n=103 then 102 else n)) (Jr Ae (.agg rfl rfl rfl rfl .nil) rfl (by repeat'(first|exact tt0|refine⟨rfl,?_⟩)))
   |some i=>
    have e1:YR s f=decide ((s.held.getD i default).frame≠f.number):=by rw[YR,hf]
    obtain⟨hi,_,_⟩:=Bs hf;rw[hf] at hho;have hho':Ak 175 [wP s slot c,AI f.BR] (AI (i:Nat)):=hho
    repeat'(first|refine Af ?_|refine Aa (Ha f s.tb.node) ?_|refine AK [100,102] (hho') ?_|fail)
    all_goals try (exfalso;omega)
    rw[e1];exact Ag (BF (l:=[(4,.c (.ptr 4 0))]) (b:=[(9100,.pin 100 (r 100)),(4,.box (Sq f (decide ((s.held.getD i default).frame≠f.number))).cs),(100,.box (wcs s (.d (hds s.held)) (.row 103 s.seen.length) slot c)),(103,.row 123 2 (rowOf Sn.enc s.seen))]) (fun n=>if n=103 then 102 else n)) (Jr Ae (.agg rfl rfl rfl rfl .nil) rfl (by repeat'(first|exact tt0|refine⟨rfl,?_⟩)))
  have hd1:=Ajv h1;rw[Akb h1] at e0;by_cases h4:f.kind=4/\f.target=s.tb.node
  ·have hd4:decide (f.kind=4)=true:=Aju h4.1;have hd5:decide (f.target=s.tb.node)=true:=Aju h4.2;rw[Akc h4] at e0;rw[e0];cases hfd:fdK Sn.node s.seen (HC f).node with
   |true=>
    have hlt:bsK Sn.node s.seen (HC f).node<s.seen.length:=by
     simp only[fdK,AjE,Ajw] at hfd;exact hfd.1
    have e2:SZ s f=s.seen.set (bsK Sn.node s.seen (HC f).node) (HC f):=by rw[SZ,hud,Akc hfd]
    rw[e2]
    repeat'(first|refine Af ?_|refine Aa (Ha f s.tb.node) ?_|refine AK [102] (M1 s.seen (HC f)) ?_|refine Cd [102] (JD s.seen (HC f) (by omega)) (gk rfl) rfl (by(repeat'(first|exact .nil|refine .cons ?_ ?_|exact(Ol)|exact .of0 (.c (CL (by simp) rfl (by rfl) (fun _=>rfl)))|refine .of0 (.agg ?_)|exact .d))<;>fail) (by rfl) rfl (by rfl) rfl (by exact Ie) rfl ?_|refine AS ?_|refine AY ?_|fail)
    exact Ag (BF (l:=[(4,.c (.ptr 4 0))]) (b:=[(9100,.pin 100 (r 100)),(4,.box (Sq f (AgA s f)).cs),(100,.box (wcs {s with seen:=s.seen.set (bsK Sn.node s.seen (HC f).node) (HC f)} (.d (hds s.held)) (.row 103 (s.seen.set (bsK Sn.node s.seen (HC f).node) (HC f)).length) slot c)),(103,.row 123 2 (rowOf Sn.enc (s.seen.set (bsK Sn.node s.seen (HC f).node) (HC f))))]) (fun n=>if n=103 then 102 else n)) (Jr Ae (.agg rfl rfl rfl rfl .nil) rfl (by repeat'(first|exact tt0|refine⟨rfl,?_⟩)))
   |false=>
    have e2:SZ s f=BA s.seen (bsK Sn.node s.seen (HC f).node) (HC f):=by rw[SZ,hud,Akb (by rw[hfd];simp)]
    have hil:(BA s.seen (bsK Sn.node s.seen (HC f).node) (HC f)).length=s.seen.length+1:=by simp[BA];omega
    rw[e2]
    repeat'(first|refine Af ?_|refine Aa (Ha f s.tb.node) ?_|refine AK [102] (M1 s.seen (HC f)) ?_|refine Cd [102] (JD s.seen (HC f) (by omega)) (gk rfl) rfl (by(repeat'(first|exact .nil|refine .cons ?_ ?_|exact(Ol)|exact .of0 (.c (CL (by simp) rfl (by rfl) (fun _=>rfl)))|refine .of0 (.agg ?_)|exact .d))<;>fail) (by rfl) rfl (by rfl) rfl (by exact Ie) rfl ?_|refine Cx [108] (Zg s.seen (bsK Sn.node s.seen (HC f).node) (HC f) (by omega) hbs') Ai ?_|fail)
    rw[hil];exact Ag (BF (l:=[(4,.c (.ptr 4 0))]) (b:=[(9100,.pin 100 (r 100)),(4,.box (Sq f (AgA s f)).cs),(100,.box (wcs {s with seen:=BA s.seen (bsK Sn.node s.seen (HC f).node) (HC f)} (.d (hds s.held)) (.row 103 (s.seen.length+1)) slot c)),(103,.row 123 2 (rowOf Sn.enc (BA s.seen (bsK Sn.node s.seen (HC f).node) (HC f))))]) (fun n=>if n=103 then 109001 else n)) (Jr Ae (.agg rfl rfl rfl rfl .nil) rfl (by repeat'(first|exact tt0|refine⟨rfl,?_⟩)))
  ·rw[Akb h4] at e0;rw[e0]
   repeat'(first|refine Af ?_|refine Aa (Ha f s.tb.node) ?_|(refine Av ?_ ?_<;>intro h hq)|fail)
   all_goals try (exfalso;omega)
   ·exact Ag (BF (l:=[(4,.c (.ptr 4 0))]) (b:=[(9100,.pin 100 (r 100)),(4,.box (Sq f true).cs),(100,.box (wcs s (.d (hds s.held)) (.row 103 s.seen.length) slot c)),(103,.row 123 2 (rowOf Sn.enc s.seen))]) (fun n=>if n=103 then 102 else n)) (Jr Ae (.agg rfl rfl rfl rfl .nil) rfl (by repeat'(first|exact tt0|refine⟨rfl,?_⟩)))
   ·exact Ag (BF (l:=[(4,.c (.ptr 4 0))]) (b:=[(9100,.pin 100 (r 100)),(4,.box (Sq f true).cs),(100,.box (wcs s (.d (hds s.held)) (.row 103 s.seen.length) slot c)),(103,.row 123 2 (rowOf Sn.enc s.seen))]) (fun n=>if n=103 then 102 else n)) (Jr Ae (.agg rfl rfl rfl rfl .nil) rfl (by repeat'(first|exact tt0|refine⟨rfl,?_⟩)))
theorem Abs (t:Tb) (Be Cq:Int):Ak 40 [tbA t,AI Be,AI Cq] (.tup [stA (IG t Be Cq).1,AI (IG t Be Cq).2]):=by
 have hck:=EE t;refine Ao func40 ntmps40 results40 fun E hS=>?_
 refine AG ?_;by_cases hc:BV t=0
 ·rw[hc] at hck;have hl:=B4 hc;by_cases hr:Be<1\/64<Be\/Cq<0\/2147483647<Cq
  ·have e:IG t Be Cq=(noS,2):=by rw[IG,Akb (by omega),Akc hr]
   rw[e]
   repeat'(first|refine AJ ?_|refine Aa (hck) ?_|refine Aa (B0 _ _) ?_|refine sq 5 rfl ?_|(refine Av ?_ ?_<;>intro h hq)|fail)
   all_goals try (exfalso;omega)
   ·exact Ag (Al (l:=[(6,.c (.ptr 6 0)),(7,AI 2)]) (b:=[(6,.box noS.cs)])) Aj
   ·exact Ag (Al (l:=[(6,.c (.ptr 6 0)),(7,AI 2)]) (b:=[(6,.box noS.cs)])) Aj
   ·exact Ag (Al (l:=[(6,.c (.ptr 6 0)),(7,AI 2)]) (b:=[(6,.box noS.cs)])) Aj
  ·have e:IG t Be Cq=(⟨t,⟨Be,[]⟩,[],[],0,0,-1,0,0,0,Cq⟩,0):=by rw[IG,Akb (by omega),Akb hr]
   rw[e]
   repeat'(first|refine Ad ?_|refine Aa (hck) ?_|refine Aa (B0 _ _) ?_|refine Aa (PF t.cells (by omega)) ?_|(refine Av ?_ ?_<;>intro h hq)|fail)
   all_goals try (exfalso;omega)
   exact Ag (Cu (l:=[(6,.c (.ptr 6 0)),(7,AI 0)]) (b:=[(6,.box (Sta.cs ⟨t,⟨Be,[]⟩,[],[],0,0,-1,0,0,0,Cq⟩))]) (fun n=>n) [26007] hS) Aj
 ·have e:IG t Be Cq=(noS,1):=by rw[IG,Akc hc]
  have hd:decide (BV t≠0)=true:=by simp[hc]
  rw[e]
  repeat'(first|refine Ad ?_|refine Aa (hck) ?_|fail)
  exact Ag (Al (l:=[(6,.c (.ptr 6 0)),(7,AI 1)]) (b:=[(6,.box noS.cs)])) Aj
theorem LW (s:Sta):Ak 164 [stA s] (stA (Dl s)):=by
 refine Ao func164 ntmps164 results164 fun E hS=>?_
 repeat'(first|refine Ad ?_|refine Aa (Pv s.qu s.A6) ?_|(refine Av ?_ ?_<;>intro h hq)|fail)
 all_goals first
  |(rw[Dl,Akc ⟨by assumption,by assumption⟩]
    exact Ay)
  |(rw[Dl,Akb (by rintro⟨h1,h2⟩;first|omega|simp_all)]
    exact Ay)
theorem YS (s:Sta) (p:Pk):Ak 165 [stA s,pkA p] (.tup [stA (Ia s p).1,AD (pks (Ia s p).2.1),AI (Ia s p).2.2]):=by
 have hck:=D1 s;refine Ao func165 ntmps165 results165 fun E hS=>?_
 refine AG ?_;by_cases hc:AU s=0
 ·rw[hc] at hck;by_cases he:(DP s.qu p).2.2=0
  ·by_cases ht:p.to=s.tb.node
   ·have e:Ia s p=(noS,[],12):=by rw[Ia,Akb (by omega),Akb (by omega),Akc ht]
    have d1:=Cc ((DP s.qu p).2.2≠0);have d2:=Aju ht;rw[e]
    repeat'(first|refine Af ?_|refine Aa (hck) ?_|refine Aa (GY s.qu p) ?_|fail)
    exact Ag (Al (l:=[(4,.c (.ptr 4 0)),(5,AD (pks [])),(6,AI 12)]) (b:=[(4,.box noS.cs)])) AL
   ·have d1:=Cc ((DP s.qu p).2.2≠0);have d2:=Ajv ht;by_cases hz:100<p.data.size
    ·have e:Ia s p=(noS,[],8):=by rw[Ia,Akb (by omega),Akb (by omega),Akb ht,Akc hz]
     have d3:=Es ((100:Int)<(p.data.size:Nat));rw[e]
     repeat'(first|refine Af ?_|refine Aa (hck) ?_|refine Aa (GY s.qu p) ?_|fail)
     exact Ag (Al (l:=[(4,.c (.ptr 4 0)),(5,AD (pks [])),(6,AI 8)]) (b:=[(4,.box noS.cs)])) AL
    ·have e:Ia s p=(Dl {s with qu:=(DP s.qu p).1},(DP s.qu p).2.1,0):=by rw[Ia,Akb (by omega),Akb (by omega),Akb ht,Akb hz]
     have d3:=Cc ((100:Int)<(p.data.size:Nat));rw[e]
     repeat'(first|refine AJ ?_|refine Aa (hck) ?_|refine Aa (GY s.qu p) ?_|refine Aa (D7 s hc) ?_|refine sq 12 rfl ?_|refine BN ?_|fail)
     refine VC.le (σ':=AN [(2,.c (.ptr 2 0)),(4,.c (.ptr 4 0)),(5,AD .Df),(6,AI 0),(8,AD (pks (DP s.qu p).2.1))] [(2,.box (Sta.cs {s with qu:=(DP s.qu p).1})),(4,.box noS.cs)]) ?_ ?_
     ·exact Cu (fun n=>n) [42101,42102] hS
     repeat'(first|refine Ad ?_|refine Aa (LW {s with qu:=(DP s.qu p).1}) ?_|fail)
     exact Ag (Al (l:=[(4,.c (.ptr 4 0)),(5,AD (pks (DP s.qu p).2.1)),(6,AI 0)]) (b:=[(4,.box (Dl {s with qu:=(DP s.qu p).1}).cs)])) AL
  ·have e:Ia s p=(noS,[],(DP s.qu p).2.2):=by rw[Ia,Akb (by omega),Akc he]
   have d1:decide ((DP s.qu p).2.2≠0)=true:=Aju he;rw[e]
   repeat'(first|refine Af ?_|refine Aa (hck) ?_|refine Aa (GY s.qu p) ?_|fail)
   exact Ag (Al (l:=[(4,.c (.ptr 4 0)),(5,AD (pks [])),(6,AI (DP s.qu p).2.2)]) (b:=[(4,.box noS.cs)])) AL
 ·have e:Ia s p=(noS,[],1):=by rw[Ia,Akc hc]
  have hd:decide (AU s≠0)=true:=by simp[hc]
  rw[e]
  repeat'(first|refine Ad ?_|refine Aa (hck) ?_|fail)
  exact Ag (Al (l:=[(4,.c (.ptr 4 0)),(5,AD (pks [])),(6,AI 1)]) (b:=[(4,.box noS.cs)])) AL
end Go.Proofs
