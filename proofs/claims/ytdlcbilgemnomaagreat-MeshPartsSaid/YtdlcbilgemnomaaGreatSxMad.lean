/-
  What functions of the program hand back, and plain laws on that. No condition.
-/
import Derived.Test.YtdlcbilgemnomaaGreatSxMac
import Derived.Test.YtdlcbilgemnomaaGreatSxLibB
import Derived.Test.YtdlcbilgemnomaaGreatSxLibC
import Derived.Test.YtdlcbilgemnomaaGreatSxMab
set_option linter.unusedSimpArgs false
set_option linter.unusedVariables false
section
namespace Go.Proofs.P
open Go Go.Sx
set_option maxRecDepth 4000
attribute [local irreducible] VR VC thenQ blockQ retL
theorem Dr (l:List Nb) (hl:l.length<=100000):FnS Tryz.prog 182 [AD (nbs l)] [] (.c (.row 7 l.length)) [(7,.row 93 6 (rowOf Nb.enc l))]:=by
 refine fb Tryz.func182 (by kernel_rfl) rfl Tryz.ntmps182 Tryz.results182 rfl rfl rfl rfl fun E hS=>?_
 refine AK ?_
 repeat'(first|refine sR ?_|refine Aj rfl (by exact tt0) ?_|refine sq 1 rfl ?_|fail)
 refine BB ?_;refine BB ?_;refine Fx rfl rfl rfl rfl fun b hb=>?_
 repeat'(first|refine sB ?_|refine Aj rfl (by exact tt0) ?_|(refine gA ?_;first|refine Bf (gk rfl) rfl rfl rfl (by rfl) (by exact .rd) rfl rfl rfl (by(try dsimp only);omega) rfl rfl ?_)|(refine gD ?_;first|(refine Ay rfl ?_ ?_<;>intro h<;>have hq:=h<;>(try simp only[hqs] at hq)))|fail)
 ·have h0:l=[]:=Ae3 (hb (by assumption));subst h0;exact An (le_nil (T:=93) (sz:=6) (nm:=7) (t:=2) rfl rfl) (Bn Ab rfl rfl)
 ·refine An (Am (l:=[(2,.c (.row 7 l.length))]) (b:=[(7,.row 93 6 (rowOf Nb.enc l))]) (fun n=>n) ⟨⟨_,rfl,.c (.row rfl (by simp))⟩,trivial⟩ ⟨⟨_,rfl,.Bc ?_ Ai⟩,trivial⟩ rfl (by simp only[wfL,List.all_cons,List.all_nil,AY];rfl)) (Bn Ab rfl rfl);exact(List.nil_append _).trans (FC (enc:=Nb.enc) (sz:=6) fun _=>rfl)
theorem W5 {l:List Nb} {p:Nb->Bool} (h:Fl l p=none):∀x∈l,p x=false:=by
 intro x hx;obtain⟨i,hi,rfl⟩:=List.getElem_of_mem hx;have:=List.find?_eq_none.1 h i (AeL.2 hi);simpa [Aec,Ael hi] using this
theorem W4 {l:List Nb} {p:Nb->Bool} {i:Nat} (h:Fl l p=some i):i<l.length/\p (l.getD i default)=true/\∀k,k<i->p (l.getD k default)=false:=by
 refine⟨AeL.1 (List.mem_of_find?_eq_some h),List.find?_some (p:=fun i=>p (l.getD i default)) h,fun k hk=>?_⟩;rw[Fl,List.find?_range_eq_some] at h;simpa using h.2.2 k hk
theorem filter_none {l:List Nb} {p:Nb->Bool} (h:∀x∈l,p x=false):l.filter (fun x=>!p x)=l:=by
 rw[List.filter_eq_self];intro x hx;simp[h x hx]
theorem Co {l:List Nb} {i:Nat} (h:i<l.length):l.take (i+1)=l.take i++[l.getD i default]:=by
 rw[List.take_add_one,Aec,Ael h];rfl
theorem CZ {l:List Nb} {i:Nat} {x:Nb} (h:x∈l.take i):∃k,k<i/\k<l.length/\x=l.getD k default:=by
 obtain⟨k,hk,rfl⟩:=List.getElem_of_mem h;rw[Aem] at hk;refine⟨k,by omega,by omega,?_⟩;rw[List.getElem_take,Aec,Ael (by omega)];rfl
theorem H3 {l:List Nb} {p:Nb->Bool} {i:Nat} (hi:i<l.length) (hp:p (l.getD i default)=true) (hlt:∀k,k<i->p (l.getD k default)=false):l.take i=(l.take (i+1)).filter (fun x=>!p x):=by
 rw[Co hi,List.filter_append,filter_none (fun x hx=>by obtain⟨k,h1,_,rfl⟩:=CZ hx;exact hlt k h1)];rw[List.filter_cons_of_neg (by simpa using hp)];simp
theorem EI {l L:List Nb} {k:Nat} (h3:L.length=l.length) (h5:L.drop k=l.drop k) (hk:k<l.length):L.getD k default=l.getD k default/\L.drop (k+1)=l.drop (k+1):=by
 refine⟨?_,?_⟩
 ·have:=congrArg (fun x=>x[0]?) h5;simp only[List.getElem?_drop,Nat.add_zero] at this;rw[Aec,Aec,this]
 ·rw[<-List.drop_drop,<-List.drop_drop,h5]
theorem take_set {L:List Nb} {j:Nat} {x:Nb} (h:j<L.length):(L.set j x).take (j+1)=L.take j++[x]:=by
 rw[List.take_add_one,List.take_set_of_le (AeU _)];simp[h]
theorem Xj (l:List Nb) (p:Nb->Bool) (hl:l.length<=100000):FnS Tryz.prog 183 [.c (.row 0 l.length),.clo (JZ p)] [(0,.row 93 6 (rowOf Nb.enc l))]
  (.c (.row 0 (l.filter fun x=>!p x).length)) [(0,.row 93 6 (rowOf Nb.enc (l.filter fun x=>!p x)))]:=by
 refine FnS.Bu (enters_of Tryz.func183 (by kernel_rfl) rfl) Tryz.func183 rfl Tryz.ntmps183 Tryz.results183 rfl (by first|rfl|(simp only[AZ,wfL,AH,List.all_cons,List.all_nil,AY];rfl)) rfl fun E=>?_
 refine AK ?_;have hidx:=UB l p;cases hf:Fl l p with
 |none=>
  rw[hf] at hidx;have hidx':FnS Tryz.prog 117 [AD (nbs l),.clo (JZ p)] [] (AI (-1)) []:=hidx
  repeat'(first|refine sB ?_|refine Aj rfl (by exact tt0) ?_|(refine gC ?_;first|refine AJ [0] (hidx') (gk rfl) rfl (by(repeat'(first|exact .nil|refine .cons ?_ ?_|exact .clo|exact(.of0 (.c (A9 (by simp) rfl rfl (fun _=>rfl))))))<;>fail) (by rfl) rfl (by rfl) rfl (by rfl) rfl ?_)|(refine gD ?_;first|refine Ah rfl ?_)|fail)
  have e:l.filter (fun x=>!p x)=l:=filter_none (W5 hf);rw[e];exact JU (Bn Ab rfl rfl)
 |some i=>
  rw[hf] at hidx;obtain⟨hi,hpi,hlt⟩:=W4 hf;have hidx':FnS Tryz.prog 117 [AD (nbs l),.clo (JZ p)] [] (AI (i:Nat)) []:=hidx
  repeat'(first|refine sC ?_|refine Aj rfl (by first|exact tt0|omega) ?_|(refine gC ?_;first|refine AJ [0] (hidx') (gk rfl) rfl (by(repeat'(first|exact .nil|refine .cons ?_ ?_|exact .clo|exact(.of0 (.c (A9 (by simp) rfl rfl (fun _=>rfl))))))<;>fail) (by rfl) rfl (by rfl) rfl (by rfl) rfl ?_)|(refine gD ?_;first|refine Ag rfl ?_)|fail)
  refine AA (ι:=Nat×Nat×List Nb) (fun q=>AS [(0,.c (.row 0 l.length)),(1,.clo (JZ p)),(5,AI q.2.1),(6,AI q.1)] [(0,.row 93 6 (rowOf Nb.enc q.2.2))])
   (fun q=>q.1<=l.length/\q.2.1<q.1/\q.2.2.length=l.length/\q.2.2.take q.2.1=(l.take q.1).filter (fun x=>!p x)/\q.2.2.drop q.1=l.drop q.1) (fun q=>l.length-q.1) (i+1,i,l) ⟨hi,Nat.lt_succ_self _,rfl,H3 hi hpi hlt,rfl⟩ ?_ ?_
  ·exact B4 ⟨rfl,rfl,rfl,rfl,trivial⟩ ⟨rfl,trivial⟩ (by simp only[wfL,List.all_cons,List.all_nil,AY];rfl)
  ·rintro⟨k,j,L⟩ ⟨h1,h2,h3,h4,h5⟩;dsimp only at h1 h2 h3 h4 h5 ⊢
   repeat'(first|refine sR ?_|refine Aj rfl (by first|exact tt0|omega) ?_|(refine gC ?_;first|refine EV (⟨_,rfl,rfl⟩) (gk rfl) rfl rfl rfl rfl ?_)|(refine gI ?_;first|refine BF (gk rfl) rfl rfl rfl rfl rfl rfl (by omega) (by omega) rfl ?_)|(refine gE ?_;first|refine BA (gk rfl) rfl rfl (by(simp only[Al,Aes,Aeq,Aeh,Aem,List.length_cons,List.length_nil,Aet,Aep,List.length_range]<;>omega)) rfl rfl ?_)|(refine gL ?_;first|refine Da (gk rfl) rfl rfl (by omega) rfl rfl rfl ?_)|(refine gS ?_;first|refine By (gk rfl) rfl rfl rfl (by omega) rfl rfl rfl ?_)|refine sq 11 rfl ?_|(refine gD ?_;first|(refine Ay rfl ?_ ?_<;>intro h<;>have hq:=h<;>(try simp only[hqs] at hq)))|refine BV ?_|fail)
   ·have hk:k<l.length:=by omega
    obtain⟨hx,hd⟩:=EI h3 h5 hk;refine⟨(k+1,j+1,L.set j (L.getD k default)),⟨by dsimp only;omega,by dsimp only;omega,by simp[h3],?_,?_⟩,by dsimp only;omega,Am (fun n=>n) ⟨⟨_,rfl,.c (.row rfl rfl)⟩,⟨_,rfl,.clo⟩,⟨_,rfl,.c .d⟩,⟨_,rfl,.c .d⟩,trivial⟩
     ⟨⟨_,rfl,.Bc (Dx rfl) Ai⟩,trivial⟩ rfl (by simp only[wfL,List.all_cons,List.all_nil,AY];rfl)⟩
    ·dsimp only;rw[take_set (by omega),h4,Co hk,List.filter_append,hx,List.filter_cons_of_pos (by rw[<-hx];exact h)];rfl
    ·dsimp only;rw[List.drop_set_of_lt (by omega),hd]
   ·have hk:k<l.length:=by omega
    obtain⟨hx,hd⟩:=EI h3 h5 hk;refine⟨(k+1,j,L),⟨by dsimp only;omega,by dsimp only;omega,h3,?_,hd⟩,by dsimp only;omega,Am (fun n=>n) ⟨⟨_,rfl,.c (.row rfl rfl)⟩,⟨_,rfl,.clo⟩,⟨_,rfl,.c .d⟩,⟨_,rfl,.c .d⟩,trivial⟩
     ⟨⟨_,rfl,.Bc rfl Ai⟩,trivial⟩ rfl (by simp only[wfL,List.all_cons,List.all_nil,AY];rfl)⟩
    dsimp only;rw[h4,Co hk,List.filter_append,List.filter_cons_of_neg (by rw[<-hx,h];simp)];simp
   ·have hk:k=l.length:=by omega
    subst hk;refine Ed (nm:=0) rfl (EW (by omega)) fun cp spare hcp hmax=>?_
    rw[Al] at hcp
    repeat'(first|refine sB ?_|refine Aj rfl (by exact tt0) ?_|(show VR _ _ _ (⟨_,.slice _ _ _ _ _,_,_,_,_⟩ :: _) _ _ _;first|refine B8 (gk rfl) rfl rfl (by exact .full) rfl rfl (by first|exact .no|exact .int rfl rfl) (by omega) (by omega) rfl ?_|refine Bg (gk rfl) rfl rfl (by exact .full) rfl rfl (by exact .int rfl rfl) (by exact .no) (by omega) (by omega) (by omega) rfl ?_)|(show VR _ _ _ (⟨_,.call ⟨.builtin .clear,_,_⟩,_,_,_,_⟩ :: _) _ _ _;first|refine Ja (gk rfl) rfl (by exact .sub) rfl rfl rfl rfl rfl (by(simp only[Al,Aes,Aeh,Aem,Aep,Aeq];omega)) ?_)|fail)
    rw[List.take_length] at h4;have hj:(l.filter fun x=>!p x).length=j:=by rw[<-h4,Aem];omega
    rw[hj,<-h4];refine An (Am (l:=[(4,.c (.row 0 j))]) (b:=[(0,.row 93 6 (rowOf Nb.enc (L.take j)))]) (fun n=>n) ⟨⟨_,rfl,.c (.row rfl rfl)⟩,trivial⟩ ⟨⟨_,rfl,.I4 j ?_⟩,trivial⟩ rfl (by simp only[wfL,List.all_cons,List.all_nil,AY];rfl)) (Bn Ab rfl rfl);rw[Aey,List.take_append_of_le_length (by rw[Aem,Al];omega),List.take_take,Nat.min_self,CH]
abbrev Aco (slot age:Int) (x:Nb):Bool:=decide (age<=IntKind.i64.wrap (slot-x.slot))
abbrev kept (l:List Nb) (slot age:Int):List Nb:=l.filter fun x=>!Aco slot age x
theorem Ok (x:Nb) (slot age:Int):FnS Tryz.prog 184 [nbA x,.ep (fun _=>.int .i64 slot) 1,.ep (fun _=>.int .i64 age) 1] [] (AB (Aco slot age x)) []:=by
 refine fb Tryz.func184 (by kernel_rfl) rfl Tryz.ntmps184 Tryz.results184 rfl rfl rfl rfl fun E hS=>?_
 repeat'(first|refine sB ?_|refine Aj rfl (by exact tt0) ?_|(refine gB ?_;first|refine IM rfl rfl rfl rfl rfl ?_)|fail)
 all_goals exact As Ab rfl rfl
theorem P1 {σ:St} {slot age:Int} {n1 n2:Nat} (h1:σ (.b n1)=some (.k (.box [.d (.int .i64 slot)]))) (h2:σ (.b n2)=some (.k (.box [.d (.int .i64 age)]))):AR Tryz.prog σ [n1,n2] (.fnc 184 [.ptr n1 0,.ptr n2 0]) (.clo (JZ (Aco slot age))):=
 .fnc (eps:=[.ep (fun _=>.int .i64 slot) 1,.ep (fun _=>.int .i64 age) 1]) (.cons (.ptr (by simp) h1 (fun j hj=>by
  have:j=0:=by omega
  subst this;rfl)) (.cons (.ptr (by simp) h2 (fun j hj=>by
  have:j=0:=by omega
  subst this;rfl)) .nil)) (enters_of Tryz.func184 (by kernel_rfl) rfl)
  (by rintro _ _ ⟨x,rfl,rfl⟩;exact⟨rfl,Ok x slot age⟩)
theorem SH (l:List Nb) (slot age:Int) (h:checkNb l≠0\/slot<0\/age<0):FnS Tryz.prog 134 [AD (nbs l),AI slot,AI age] [] (AD (nbs l)) []:=by
 refine fb Tryz.func134 (by kernel_rfl) rfl Tryz.ntmps134 Tryz.results134 rfl rfl rfl rfl fun E hS=>?_
 repeat'(first|refine sR ?_|refine Aj rfl (by exact tt0) ?_|(refine gC ?_;first|refine Aa (BE l) (gk rfl) rfl rfl rfl (by rfl) rfl (by rfl) rfl ?_)|(refine Ax rfl ?_ ?_<;>intro h<;>have hq:=h<;>(try simp only[hqs] at hq))|refine sq 3 rfl ?_|(refine gD ?_;first|refine Ah rfl ?_|(refine Ay rfl ?_ ?_<;>intro h<;>have hq:=h<;>(try simp only[hqs] at hq)))|fail)
 all_goals first
  |exact RY Ab rfl rfl
  |(exfalso;simp_all;omega)
def cnt (x:Nb) (b:Bool):Nb:=
 {x with att:=(if x.att=255 then x.att/2 else x.att)+1,ack:=(if x.att=255 then x.ack/2 else x.ack)+(if b=true then 1 else 0)}
theorem Vk {x:Nb} {b:Bool} (h:(0<=x.att/\x.att<=255)/\0<=x.ack/\x.ack<=x.att):(1<=(cnt x b).att/\(cnt x b).att<=255)/\0<=(cnt x b).ack/\(cnt x b).ack<=(cnt x b).att:=by
 unfold cnt;cases b<;>dsimp only<;>split<;>simp<;>omega
theorem Gy {l:List Nb} {i j:Nat} {x:Nb} (hi:i<l.length):(l.set i x).getD j default=if j=i then x else l.getD j default:=by
 by_cases h:j=i
 ·subst h;simp[Aec,hi]
 ·simp[Aec,h,AeA (Ne.symm h)]
theorem Vp {l:List Nb} {i:Nat} {b:Bool} (h:checkNb l=0) (hi:i<l.length):checkNb (l.set i (cnt (l.getD i default) b))=0:=by
 obtain⟨hlen,hall⟩:=BK h;have hx:=(Cu (hall _ hi)).2;have key:∀k,k<(l.set i (cnt (l.getD i default) b)).length->Ho (l.set i (cnt (l.getD i default) b)) k=0:=by
  intro k hk;rw[Aes] at hk;have h0:=hall k hk;have hc:=@Vk _ b hx;have hnode:∀j,((l.set i (cnt (l.getD i default) b)).getD j default).node=(l.getD j default).node:=fun j=>by
   rw[Gy hi];split
   ·rename_i e;rw[e];rfl
   ·rfl
  have hr:DF ((l.set i (cnt (l.getD i default) b)).getD k default).node ((l.set i (cnt (l.getD i default) b)).getD k default).epoch ((l.set i (cnt (l.getD i default) b)).getD k default).rank ((l.set i (cnt (l.getD i default) b)).getD k default).slot
    = DF (l.getD k default).node (l.getD k default).epoch (l.getD k default).rank (l.getD k default).slot:=by
   rw[Gy hi];split
   ·rename_i e;rw[e];rfl
   ·rfl
  have ha:inR ((l.set i (cnt (l.getD i default) b)).getD k default).att 0 255=true:=by
   rw[Gy hi,C0];split
   ·omega
   ·have:=(Cu h0).2.1;omega
  have hb:inR ((l.set i (cnt (l.getD i default) b)).getD k default).ack 0 ((l.set i (cnt (l.getD i default) b)).getD k default).att=true:=by
   rw[Gy hi,C0];split
   ·omega
   ·have:=(Cu h0).2.2;omega
  have hh:=(Cu h0).1;unfold Ho at h0 ⊢;dsimp only at h0 ⊢;rw[hr,ha,hb,hnode,hnode];have ha0:inR (l.getD k default).att 0 255=true:=by rw[C0];have:=(Cu (hall k hk)).2.1;omega
  have hb0:inR (l.getD k default).ack 0 (l.getD k default).att=true:=by rw[C0];have:=(Cu (hall k hk)).2.2;omega
  rw[ha0,hb0] at h0;exact h0
 unfold checkNb;rw[Aes,AeS (by omega)];exact CD fun k hk=>key k (by rw[Aes];exact hk)
abbrev bls (l:List Bool):D:=IS (fun b=>[.bool b]) 1 l
instance:Overlaps Tryz.prog 252:=
 ⟨43,4,93,6,AM.slice Tryz.XN rfl,fun w=>AM.Bj Tryz.XL w,fun args w=>run_callFunc_extern Tryz.func252 (by kernel_rfl) (by kernel_rfl) (by kernel_rfl) (by kernel_rfl) args w⟩
abbrev Bp (l:List Nb) (i:Nat) (x:Nb):List Nb:=l.take i++x :: l.drop i
abbrev nb1 (x:Nb):D:=.rd 1 6 fun _ j=>x.enc.getD j .Dh
theorem UA (l:List Nb) (i:Nat) (x:Nb):rowOf Nb.enc (Bp l i x)=List.take i (rowOf Nb.enc l)++(Nb.enc x).map C.d :: List.drop i (rowOf Nb.enc l):=by
 rw[Bp,A4,CH,Eu]
 rfl
theorem PM (l:List Nb) (i:Nat) (x:Nb) (hl:l.length<=100000) (hi:i<=l.length):FnS Tryz.prog 181 [.c (.row 0 l.length),AI i,AD (nb1 x)] [(0,.row 93 6 (rowOf Nb.enc l))]
  (.c (.row 1 (l.length+1))) [(1,.row 93 6 (rowOf Nb.enc (Bp l i x)))]:=by
 refine FnS.Bu (enters_of Tryz.func181 (by kernel_rfl) rfl) Tryz.func181 rfl Tryz.ntmps181 Tryz.results181 rfl (by first|rfl|(simp only[AZ,wfL,AH,List.all_cons,List.all_nil,AY];rfl)) rfl fun E=>?_
 refine AK ?_
 repeat'(first|refine sR ?_|refine Aj rfl (by exact tt0) ?_|(refine gE ?_;first|refine BA (gk rfl) rfl rfl (by exact Al.symm) rfl rfl ?_)|(refine gA ?_;first|refine Bf (gk rfl) rfl rfl rfl (by exact Al.symm) (by exact .rd) rfl rfl rfl (by(try dsimp only);omega) rfl rfl ?_)|(show VR _ _ _ (⟨_,.slice _ _ _ _ _,_,_,_,_⟩ :: _) _ _ _;first|refine Bg (gk rfl) rfl rfl (by exact .row) rfl rfl (by exact .int rfl rfl) (by exact .no) (by omega) (by(simp only[Al,Aes,Aeh,Aem,Aep,Aeq];omega)) (by(simp only[Al,Aes,Aeh,Aem,Aep,Aeq];omega)) rfl ?_)|refine sq 8 rfl ?_|(refine gD ?_;first|refine Ag rfl ?_|(refine Ay rfl ?_ ?_<;>intro h<;>have hq:=h<;>(try simp only[hqs] at hq)))|fail)
 ·have e:i=l.length:=by omega
  subst e;refine An (Am (l:=[(6,.c (.row 1 (l.length+1)))]) (b:=[(1,.row 93 6 (rowOf Nb.enc (Bp l l.length x)))]) (fun n=>if n=1 then 25 else n) ⟨⟨_,rfl,.c (.row rfl rfl)⟩,trivial⟩
   ⟨⟨_,rfl,.Bc ?_ Ai⟩,trivial⟩ rfl (by simp only[wfL,List.all_cons,List.all_nil,AY];rfl)) (Bn Ab rfl rfl)
  rw[Bp,List.take_length,List.drop_length,A4]
  rfl
 ·refine Ed (nm:=0) rfl (EW (by omega)) fun cp spare hcp hmax=>?_
  rw[Al] at hcp
  repeat'(first|refine sR ?_|refine Aj rfl (by first|exact tt0|omega) ?_|(refine gC ?_;first|refine Ft (gk rfl) rfl rfl rfl (by exact .full) (by omega) rfl rfl rfl ?_)|(refine gA ?_;first|refine Db (gk rfl) rfl rfl rfl rfl rfl rfl rfl rfl rfl rfl (by omega) (by(simp only[Al,Aes,Aeh,Aem,Aep,Aeq];omega)) (by omega) (by(try dsimp only);omega) rfl rfl ?_)|(show VR _ _ _ (⟨_,.slice _ _ _ _ _,_,_,_,_⟩ :: _) _ _ _;first|refine B8 (gk rfl) rfl rfl (by exact .full) rfl rfl (by first|exact .no|exact .int rfl rfl) (by omega) (by omega) rfl ?_|refine Bg (gk rfl) rfl rfl (by exact .full) rfl rfl (by exact .int rfl rfl) (by exact .no) (by omega) (by omega) (by omega) rfl ?_)|(show VR _ _ _ (⟨_,.call ⟨.builtin .copy,_,_⟩,_,_,_,_⟩ :: _) _ _ _;first|refine F7 (gk rfl) rfl rfl (by exact .sub) rfl (by first|exact .src .rd|exact .tail rfl (by(simp only[Al,Aes,Aeh,Aem,Aep,Aeq];omega)) (by omega)) rfl rfl rfl (by(simp only[Al,Aes,Aeh,Aem,Aep,Aeq];omega)) (by omega) rfl ?_)|(show VR _ _ _ (⟨_,.call ⟨.builtin .cap,_,_⟩,_,_,_,_⟩ :: _) _ _ _;first|refine Fw (gk rfl) rfl rfl rfl rfl ?_)|refine Ap (by kernel_rfl) ?_|refine sq 10 rfl ?_|(refine gD ?_;first|refine Ah rfl ?_|(refine Ay rfl ?_ ?_<;>intro h<;>have hq:=h<;>(try simp only[hqs] at hq)))|fail)
  ·have hq1:((l.length:Int)+(1:Nat)-i).toNat=l.length+1-i:=by omega
   refine Ed (nm:=40) rfl (by
    intro e;have:=congrArg List.length e;rw[Aeh,Aeq] at this;change _+_=0 at this;omega) fun cp2 spare2 hcp2 hmax2=>?_
   rw[Aeh,Aeq,Aem,Al] at hcp2
   repeat'(first|refine sB ?_|refine Aj rfl (by first|exact tt0|omega) ?_|(show VR _ _ _ (⟨_,.slice _ _ _ _ _,_,_,_,_⟩ :: _) _ _ _;first|refine Bg (gk rfl) rfl rfl (by exact .full) rfl rfl (by exact .int rfl rfl) (by exact .no) (by omega) (by omega) (by omega) rfl ?_)|(show VR _ _ _ (⟨_,.call ⟨.builtin .copy,_,_⟩,_,_,_,_⟩ :: _) _ _ _;first|refine F7 (gk rfl) rfl rfl (by exact .sub) rfl (by first|exact .src .rd|exact .src (.sub rfl (by exact .full) (by(simp only[Al,Aes,Aeh,Aem,Aep,Aeq];omega)))) rfl rfl rfl (by(simp only[Al,Aes,Aeh,Aem,Aep,Aeq];omega)) (by omega) rfl ?_)|refine Ap (by kernel_rfl) ?_|fail)
   refine An (Am (l:=[(6,.c (.row 1 (l.length+1)))]) (b:=[(1,.row 93 6 (rowOf Nb.enc (Bp l i x)))]) (fun n=>if n=1 then 40 else n) ⟨⟨_,rfl,.c (.row rfl (by omega))⟩,trivial⟩
    ⟨⟨_,rfl,.I4 (l.length+1) ?_⟩,trivial⟩ rfl (by simp only[wfL,List.all_cons,List.all_nil,AY];rfl)) (Bn Ab rfl rfl)
   rw[hq1,show min 1 (i+(l.length+1-i)-i)=1 by omega,show min (l.length-i) (i+(l.length+1-i)-(i+1))=l.length-i by omega];exact(Jv (y:=(Nb.enc x).map C.d) (Al (enc:=Nb.enc)) (by omega) rfl).trans (UA l i x).symm
  ·refine An (Am (l:=[(6,.c (.row 1 (l.length+1)))]) (b:=[(1,.row 93 6 (rowOf Nb.enc (Bp l i x)))]) (fun n=>if n=1 then 0 else n) ⟨⟨_,rfl,.c (.row rfl rfl)⟩,trivial⟩
    ⟨⟨_,rfl,.I4 (l.length+1) ?_⟩,trivial⟩ rfl (by simp only[wfL,List.all_cons,List.all_nil,AY];rfl)) (Bn Ab rfl rfl)
   rw[show min 1 (l.length+1-i)=1 by omega,show min (l.length+1-i) (l.length+1-(i+1))=l.length-i by omega];exact(Ju (y:=(Nb.enc x).map C.d) (Al (enc:=Nb.enc)) (by omega)).trans (UA l i x).symm
def VK (x:Nb) (e k s:Int):Nb:={x with epoch:=e,rank:=k,slot:=s}
def PE (t:Int):Nb:=⟨t,0,0,0,0,0⟩
def PX (l:List Nb) (t:Int):Nb:=if BS l t=true then l.getD (C5 l t) default else PE t
def KY (l:List Nb) (t e k s:Int):List Nb:=if BS l t=true then l.set (C5 l t) (VK (l.getD (C5 l t) default) e k s) else Bp l (C5 l t) (VK (PE t) e k s)
def hearM (l:List Nb) (t e k s:Int):List Nb×Int:=if checkNb l≠0 then([],1) else if DF t e k s=false then([],2) else if s<(PX l t).slot then([],15) else(KY l t e k s,0)
theorem PW (l:List Nb) (t e k s:Int) (h:checkNb l=0) (hr:DF t e k s=true) (hs:¬s<(PX l t).slot) (hf:BS l t=true):FnS Tryz.prog 131 [AD (nbs l),AI t,AI e,AI k,AI s] [] (.tup [AD (nbs (KY l t e k s)),AI 0]) []:=by
 have hck:=BE l;rw[h] at hck;have hh:=C1 t e k s;rw[hr] at hh;obtain⟨hlen,hall⟩:=BK h;have hfd:=find_spec l t (by omega);rw[PX,AeT hf] at hs;rw[hf] at hfd;have hi:=(CG.1 hf).1;have hn:=(CG.1 hf).2;rw[KY,AeT hf];generalize C5 l t=i at *;refine fb Tryz.func131 (by kernel_rfl) rfl Tryz.ntmps131 Tryz.results131 rfl rfl rfl rfl fun E hS=>?_
 refine AK ?_
 repeat'(first|refine sB ?_|refine Aj rfl (by exact tt0) ?_|(refine gC ?_;first|refine Aa (hck) (gk rfl) rfl rfl rfl (by rfl) rfl (by rfl) rfl ?_|refine Aa (hh) (gk rfl) rfl rfl rfl (by rfl) rfl (by rfl) rfl ?_|refine Aa (hfd) (gk rfl) rfl rfl rfl (by rfl) rfl (by rfl) rfl ?_|refine Aa (Dr l (by omega)) (gk rfl) rfl rfl rfl (by(simp only[AZ,wfL,AH,List.all_cons,List.all_nil,AY];rfl)) rfl (by exact B2) rfl ?_)|(refine gI ?_;first|refine Aq (gk rfl) rfl rfl rfl rfl rfl (by omega) rfl ?_|refine BF (gk rfl) rfl rfl rfl rfl rfl rfl (by omega) (by omega) rfl ?_)|(refine gS ?_;first|refine By (gk rfl) rfl rfl rfl (by omega) rfl rfl rfl ?_)|(refine gD ?_;first|refine Ag rfl ?_|(refine Ay rfl ?_ ?_<;>intro h<;>have hq:=h<;>(try simp only[hqs] at hq)))|fail)
 all_goals first
  |(exfalso;omega)
  |skip
 refine L4 (Am (l:=[(10,.c (.row 7 (l.set i (VK (l.getD i default) e k s)).length)),(11,AI 0)]) (b:=[(7,.row 93 6 (rowOf Nb.enc (l.set i (VK (l.getD i default) e k s))))]) (fun n=>if n=7 then 58007 else n) ⟨⟨_,rfl,.c (.row rfl (by simp))⟩,⟨_,rfl,.c .d⟩,trivial⟩
   ⟨⟨_,rfl,.Bc (Dx ?_) Ai⟩,trivial⟩ rfl (by simp only[wfL,List.all_cons,List.all_nil,AY];rfl)) ?_
 ·rw[<-hn];rfl
 refine An (Bv (l:=[(10,AD (nbs (l.set i (VK (l.getD i default) e k s)))),(11,AI 0)]) (b:=[]) (fun n=>n) [7] hS ?_ ?_ rfl (by rfl)) (Cx Ab rfl rfl rfl rfl)
 all_goals repeat'(first|exact tt0|refine⟨⟨_,rfl,?_⟩,?_⟩|exact .c .d|exact .c (.Ck (by(simp;done)) rfl rfl (fun _=>rfl))|fail)
theorem UH (l:List Nb) (t e k s:Int) (h:checkNb l=0) (hr:DF t e k s=true) (hf:BS l t=false):FnS Tryz.prog 131 [AD (nbs l),AI t,AI e,AI k,AI s] [] (.tup [AD (nbs (KY l t e k s)),AI 0]) []:=by
 have hck:=BE l;rw[h] at hck;have hh:=C1 t e k s;rw[hr] at hh;obtain⟨hlen,hall⟩:=BK h;have hfd:=find_spec l t (by omega);rw[hf] at hfd;have hi:=(MC h t).1;rw[KY,AeS (by rw[hf];simp)];generalize C5 l t=i at *;have hins:=PM l i (VK (PE t) e k s) (by omega) hi;have hil:(Bp l i (VK (PE t) e k s)).length=l.length+1:=by simp[Bp];omega
 refine fb Tryz.func131 (by kernel_rfl) rfl Tryz.ntmps131 Tryz.results131 rfl rfl rfl rfl fun E hS=>?_
 refine AK ?_
 repeat'(first|refine sB ?_|refine Aj rfl (by exact tt0) ?_|(refine gC ?_;first|refine Aa (hck) (gk rfl) rfl rfl rfl (by rfl) rfl (by rfl) rfl ?_|refine Aa (hh) (gk rfl) rfl rfl rfl (by rfl) rfl (by rfl) rfl ?_|refine Aa (hfd) (gk rfl) rfl rfl rfl (by rfl) rfl (by rfl) rfl ?_|refine Aa (Dr l (by omega)) (gk rfl) rfl rfl rfl (by(simp only[AZ,wfL,AH,List.all_cons,List.all_nil,AY];rfl)) rfl (by exact B2) rfl ?_|refine Cw [42] (hins) (gk rfl) rfl rfl Ai rfl (by(repeat'(first|exact .nil|refine .cons ?_ ?_|exact .of0 (.c .d)|exact .of0 (.c (H4 (by decide) rfl rfl (by repeat'(first|exact tt0|refine⟨?_,?_⟩|rfl))))))<;>fail) rfl (by exact KX (fun _=>rfl)) rfl (by(simp only[AZ,wfL,AH,List.all_cons,List.all_nil,AY];rfl)) rfl (by exact B2) rfl ?_)|refine Ap (by kernel_rfl) ?_|(refine gD ?_;first|refine Ah rfl ?_|refine Ag rfl ?_)|fail)
 refine An (Bv (l:=[(10,AD (nbs (Bp l i (VK (PE t) e k s)))),(11,AI 0)]) (b:=[]) (fun n=>n) [43001] hS ?_ ?_ rfl (by rfl)) (Cx Ab rfl rfl rfl rfl)
 all_goals repeat'(first|exact tt0|refine⟨⟨_,rfl,?_⟩,?_⟩|exact .c .d|(refine .c (.Ck (by(simp;done)) rfl ?_ (fun _=>rfl));((try dsimp only);first|omega);done)|fail)
theorem UI (l:List Nb) (t e k s:Int) (h:checkNb l≠0):FnS Tryz.prog 131 [AD (nbs l),AI t,AI e,AI k,AI s] [] (.tup [AD (nbs []),AI 1]) []:=by
 have d1:decide (checkNb l≠0)=true:=Aed h;refine fb Tryz.func131 (by kernel_rfl) rfl Tryz.ntmps131 Tryz.results131 rfl rfl rfl rfl fun E hS=>?_
 refine AK ?_
 repeat'(first|refine sB ?_|refine Aj rfl (by exact tt0) ?_|(refine gC ?_;first|refine Aa (BE l) (gk rfl) rfl rfl rfl (by rfl) rfl (by rfl) rfl ?_)|(refine gD ?_;first|refine Ah rfl ?_|refine At rfl (by assumption) ?_)|fail)
 refine An (Am (l:=[(10,AD (nbs [])),(11,AI 1)]) (b:=[]) (fun n=>n) ?_ ?_ rfl (by rfl)) (Cx Ab rfl rfl rfl rfl)
 all_goals repeat'(first|exact tt0|refine⟨⟨_,rfl,?_⟩,?_⟩|exact .c .d|exact .c .nil|fail)
theorem PV (l:List Nb) (t e k s:Int) (h:checkNb l=0) (hr:DF t e k s=false):FnS Tryz.prog 131 [AD (nbs l),AI t,AI e,AI k,AI s] [] (.tup [AD (nbs []),AI 2]) []:=by
 have hck:=BE l;rw[h] at hck;have hh:=C1 t e k s;rw[hr] at hh;refine fb Tryz.func131 (by kernel_rfl) rfl Tryz.ntmps131 Tryz.results131 rfl rfl rfl rfl fun E hS=>?_
 refine AK ?_
 repeat'(first|refine sB ?_|refine Aj rfl (by exact tt0) ?_|(refine gC ?_;first|refine Aa (hck) (gk rfl) rfl rfl rfl (by rfl) rfl (by rfl) rfl ?_|refine Aa (hh) (gk rfl) rfl rfl rfl (by rfl) rfl (by rfl) rfl ?_)|(refine gD ?_;first|refine Ah rfl ?_|refine Ag rfl ?_)|fail)
 refine An (Am (l:=[(10,AD (nbs [])),(11,AI 2)]) (b:=[]) (fun n=>n) ?_ ?_ rfl (by rfl)) (Cx Ab rfl rfl rfl rfl)
 all_goals repeat'(first|exact tt0|refine⟨⟨_,rfl,?_⟩,?_⟩|exact .c .d|exact .c .nil|fail)
theorem SA (l:List Nb) (t e k s:Int) (h:checkNb l=0) (hr:DF t e k s=true) (hs:s<(PX l t).slot):FnS Tryz.prog 131 [AD (nbs l),AI t,AI e,AI k,AI s] [] (.tup [AD (nbs []),AI 15]) []:=by
 have hck:=BE l;rw[h] at hck;have hh:=C1 t e k s;rw[hr] at hh;obtain⟨hlen,hall⟩:=BK h;have hfd:=find_spec l t (by omega);have hf:BS l t=true:=by
  cases hf:BS l t with
  |true=>rfl
  |false=>
   rw[PX,hf] at hs;simp only[DF,Aen,C0] at hr;have:s<0:=hs;omega
 rw[PX,AeT hf] at hs;rw[hf] at hfd;have hi:=(CG.1 hf).1;have d9:decide (s<(l.getD (C5 l t) default).slot)=true:=Aed hs;generalize C5 l t=i at *;refine fb Tryz.func131 (by kernel_rfl) rfl Tryz.ntmps131 Tryz.results131 rfl rfl rfl rfl fun E hS=>?_
 refine AK ?_
 repeat'(first|refine sB ?_|refine Aj rfl (by exact tt0) ?_|(refine gC ?_;first|refine Aa (hck) (gk rfl) rfl rfl rfl (by rfl) rfl (by rfl) rfl ?_|refine Aa (hh) (gk rfl) rfl rfl rfl (by rfl) rfl (by rfl) rfl ?_|refine Aa (hfd) (gk rfl) rfl rfl rfl (by rfl) rfl (by rfl) rfl ?_)|(refine gI ?_;first|refine Aq (gk rfl) rfl rfl rfl rfl rfl (by omega) rfl ?_)|(refine gD ?_;first|refine Ah rfl ?_|refine Ag rfl ?_|refine At rfl (by assumption) ?_)|fail)
 refine An (Am (l:=[(10,AD (nbs [])),(11,AI 15)]) (b:=[]) (fun n=>n) ?_ ?_ rfl (by rfl)) (Cx Ab rfl rfl rfl rfl)
 all_goals repeat'(first|exact tt0|refine⟨⟨_,rfl,?_⟩,?_⟩|exact .c .d|exact .c .nil|fail)
theorem UG (l:List Nb) (t e k s:Int):FnS Tryz.prog 131 [AD (nbs l),AI t,AI e,AI k,AI s] [] (.tup [AD (nbs (hearM l t e k s).1),AI (hearM l t e k s).2]) []:=by
 unfold hearM;by_cases h:checkNb l=0
 ·rw[AeS (by simp[h])];cases hr:DF t e k s with
  |false=>
   rw[AeT rfl];exact PV l t e k s h hr
  |true=>
   rw[AeS (by simp)];by_cases hs:s<(PX l t).slot
   ·rw[AeT hs];exact SA l t e k s h hr hs
   ·rw[AeS hs];cases hf:BS l t with
    |true=>exact PW l t e k s h hr hs hf
    |false=>exact UH l t e k s h hr hf
 ·rw[AeT h];exact UI l t e k s h
def countM (l:List Nb) (t:Int) (b:Bool):List Nb×Int:=if checkNb l≠0 then([],1) else if BS l t=false then([],7) else(l.set (C5 l t) (cnt (l.getD (C5 l t) default) b),0)
theorem Vj (l:List Nb) (t:Int) (b:Bool) (h:checkNb l=0) (hf:BS l t=true):FnS Tryz.prog 132 [AD (nbs l),AI t,AB b] [] (.tup [AD (nbs (l.set (C5 l t) (cnt (l.getD (C5 l t) default) b))),AI 0]) []:=by
 obtain⟨hlen,hall⟩:=BK h;have hck:=BE l;rw[h] at hck;have hfd:=find_spec l t (by omega);rw[hf] at hfd;have hi:C5 l t<l.length:=by
  simp only[BS,Aen,Aef] at hf;exact hf.1
 have hx:=(Cu (hall _ hi)).2;generalize C5 l t=i at *;refine fb Tryz.func132 (by kernel_rfl) rfl Tryz.ntmps132 Tryz.results132 rfl rfl rfl rfl fun E hS=>?_
 refine AK ?_
 repeat'(first|refine sB ?_|refine Aj rfl (by first|exact tt0|omega) ?_|(refine gC ?_;first|refine Aa (hck) (gk rfl) rfl rfl rfl (by rfl) rfl (by rfl) rfl ?_|refine Aa (hfd) (gk rfl) rfl rfl rfl (by rfl) rfl (by rfl) rfl ?_|refine Aa (Dr l (by omega)) (gk rfl) rfl rfl rfl (by(simp only[AZ,wfL,AH,List.all_cons,List.all_nil,AY];rfl)) rfl (by exact B2) rfl ?_)|(refine gI ?_;first|refine BF (gk rfl) rfl rfl rfl rfl rfl rfl (by omega) (by omega) rfl ?_)|(refine gN ?_;first|refine DX (gk rfl) rfl rfl ?_)|(refine gL ?_;first|refine Cn (gk rfl) rfl rfl (by omega) rfl rfl rfl ?_|refine M5 (gk rfl) rfl rfl (by omega) rfl rfl rfl ?_)|(refine gS ?_;first|refine By (gk rfl) rfl rfl rfl (by omega) rfl rfl rfl ?_|refine LK (gk rfl) rfl rfl rfl (by omega) rfl rfl rfl ?_)|(refine gD ?_;first|refine Ag rfl ?_|(refine Ay rfl ?_ ?_<;>intro h<;>have hq:=h<;>(try simp only[hqs] at hq)))|fail)
 all_goals
  refine L4 (Am (l:=[(6,.c (.row 24007 (l.set i (cnt (l.getD i default) b)).length)),(7,AI 0)]) (b:=[(24007,.row 93 6 (rowOf Nb.enc (l.set i (cnt (l.getD i default) b))))]) (fun n=>n) ⟨⟨_,rfl,.c (.row rfl (by simp))⟩,⟨_,rfl,.c .d⟩,trivial⟩
   ⟨⟨_,rfl,.Bc (Dx ?_) Ai⟩,trivial⟩ rfl (by simp only[wfL,List.all_cons,List.all_nil,AY];rfl)) ?_
  ·generalize l.getD i default=x at *;simp[cnt,Nb.enc,Ec, *]
 ·refine An (Bv (l:=[(6,AD (nbs (l.set i (cnt (l.getD i default) b)))),(7,AI 0)]) (b:=[]) (fun n=>n) [24007] hS ?_ ?_ rfl (by rfl)) (Cx Ab rfl rfl rfl rfl)
  all_goals repeat'(first|exact tt0|refine⟨⟨_,rfl,?_⟩,?_⟩|exact .c .d|exact .c (.Ck (by(simp;done)) rfl rfl (fun _=>rfl))|fail)
 ·refine An (Bv (l:=[(6,AD (nbs (l.set i (cnt (l.getD i default) b)))),(7,AI 0)]) (b:=[]) (fun n=>n) [24007] hS ?_ ?_ rfl (by rfl)) (Cx Ab rfl rfl rfl rfl)
  all_goals repeat'(first|exact tt0|refine⟨⟨_,rfl,?_⟩,?_⟩|exact .c .d|exact .c (.Ck (by(simp;done)) rfl rfl (fun _=>rfl))|fail)
 ·refine An (Bv (l:=[(6,AD (nbs (l.set i (cnt (l.getD i default) b)))),(7,AI 0)]) (b:=[]) (fun n=>n) [24007] hS ?_ ?_ rfl (by rfl)) (Cx Ab rfl rfl rfl rfl)
  all_goals repeat'(first|exact tt0|refine⟨⟨_,rfl,?_⟩,?_⟩|exact .c .d|exact .c (.Ck (by(simp;done)) rfl rfl (fun _=>rfl))|fail)
 ·refine An (Bv (l:=[(6,AD (nbs (l.set i (cnt (l.getD i default) b)))),(7,AI 0)]) (b:=[]) (fun n=>n) [24007] hS ?_ ?_ rfl (by rfl)) (Cx Ab rfl rfl rfl rfl)
  all_goals repeat'(first|exact tt0|refine⟨⟨_,rfl,?_⟩,?_⟩|exact .c .d|exact .c (.Ck (by(simp;done)) rfl rfl (fun _=>rfl))|fail)
theorem SS (l:List Nb) (t:Int) (b:Bool) (h:checkNb l≠0):FnS Tryz.prog 132 [AD (nbs l),AI t,AB b] [] (.tup [AD (nbs []),AI 1]) []:=by
 have d1:decide (checkNb l≠0)=true:=Aed h;refine fb Tryz.func132 (by kernel_rfl) rfl Tryz.ntmps132 Tryz.results132 rfl rfl rfl rfl fun E hS=>?_
 refine AK ?_
 repeat'(first|refine sB ?_|refine Aj rfl (by exact tt0) ?_|(refine gC ?_;first|refine Aa (BE l) (gk rfl) rfl rfl rfl (by rfl) rfl (by rfl) rfl ?_)|(refine gD ?_;first|refine Ah rfl ?_|refine At rfl (by assumption) ?_)|fail)
 refine An (Am (l:=[(6,AD (nbs [])),(7,AI 1)]) (b:=[]) (fun n=>n) ?_ ?_ rfl (by rfl)) (Cx Ab rfl rfl rfl rfl)
 all_goals repeat'(first|exact tt0|refine⟨⟨_,rfl,?_⟩,?_⟩|exact .c .d|exact .c .nil|fail)
theorem Qb (l:List Nb) (t:Int) (b:Bool) (h:checkNb l=0) (hf:BS l t=false):FnS Tryz.prog 132 [AD (nbs l),AI t,AB b] [] (.tup [AD (nbs []),AI 7]) []:=by
 obtain⟨hlen,_⟩:=BK h;have hck:=BE l;rw[h] at hck;have hfd:=find_spec l t (by omega);rw[hf] at hfd;refine fb Tryz.func132 (by kernel_rfl) rfl Tryz.ntmps132 Tryz.results132 rfl rfl rfl rfl fun E hS=>?_
 refine AK ?_
 repeat'(first|refine sB ?_|refine Aj rfl (by exact tt0) ?_|(refine gC ?_;first|refine Aa (hck) (gk rfl) rfl rfl rfl (by rfl) rfl (by rfl) rfl ?_|refine Aa (hfd) (gk rfl) rfl rfl rfl (by rfl) rfl (by rfl) rfl ?_)|(refine gD ?_;first|refine Ah rfl ?_|refine Ag rfl ?_)|fail)
 refine An (Am (l:=[(6,AD (nbs [])),(7,AI 7)]) (b:=[]) (fun n=>n) ?_ ?_ rfl (by rfl)) (Cx Ab rfl rfl rfl rfl)
 all_goals repeat'(first|exact tt0|refine⟨⟨_,rfl,?_⟩,?_⟩|exact .c .d|exact .c .nil|fail)
theorem SR (l:List Nb) (t:Int) (b:Bool):FnS Tryz.prog 132 [AD (nbs l),AI t,AB b] [] (.tup [AD (nbs (countM l t b).1),AI (countM l t b).2]) []:=by
 unfold countM;by_cases h:checkNb l=0
 ·rw[AeS (by simp[h])];cases hf:BS l t with
  |false=>
   rw[AeT rfl];exact Qb l t b h hf
  |true=>
   rw[AeS (by simp)];exact Vj l t b h hf
 ·rw[AeT h];exact SS l t b h
def forgetM (l:List Nb) (slot age:Int):List Nb:=if checkNb l=0/\0<=slot/\0<=age then kept l slot age else l
theorem SG (l:List Nb) (slot age:Int) (h:checkNb l=0/\0<=slot/\0<=age):FnS Tryz.prog 134 [AD (nbs l),AI slot,AI age] [] (AD (nbs (kept l slot age))) []:=by
 obtain⟨hlen,_⟩:=BK h.1;have hck:=BE l;rw[h.1] at hck;have h2:=h.2.1;have h3:=h.2.2;have d1:decide (slot<0)=false:=by simp;omega
 have d2:decide (age<0)=false:=by simp;omega
 refine fb Tryz.func134 (by kernel_rfl) rfl Tryz.ntmps134 Tryz.results134 rfl rfl rfl rfl fun E hS=>?_
 refine AK ?_
 repeat'(first|refine sB ?_|refine Aj rfl (by exact tt0) ?_|(refine gC ?_;first|refine Aa (hck) (gk rfl) rfl rfl rfl (by rfl) rfl (by rfl) rfl ?_|refine Aa (Dr l (by omega)) (gk rfl) rfl rfl rfl (by(simp only[AZ,wfL,AH,List.all_cons,List.all_nil,AY];rfl)) rfl (by exact B2) rfl ?_|refine Cw [4,5] (Xj l (Aco slot age) (by omega)) (gk rfl) rfl rfl Ai rfl (by(repeat'(first|exact .nil|refine .cons ?_ ?_|exact(P1 rfl rfl)))<;>fail) rfl (by exact KX (fun _=>rfl)) rfl (by(simp only[AZ,wfL,AH,List.all_cons,List.all_nil,AY];rfl)) rfl (by exact B2) rfl ?_)|refine Az rfl (by assumption) ?_|(refine gD ?_;first|refine Ag rfl ?_|refine At rfl (by assumption) ?_)|fail)
 refine An (Bv (l:=[(6,AD (nbs (kept l slot age)))]) (b:=[]) (fun n=>n) [22000] hS ?_ ?_ rfl (by rfl)) (RY Ab rfl rfl)
 all_goals repeat'(first|exact tt0|refine⟨⟨_,rfl,?_⟩,?_⟩|exact .c (.Ck (by(simp;done)) rfl rfl (fun _=>rfl))|fail)
theorem P0 (l:List Nb) (slot age:Int):FnS Tryz.prog 134 [AD (nbs l),AI slot,AI age] [] (AD (nbs (forgetM l slot age))) []:=by
 unfold forgetM;by_cases h:checkNb l=0/\0<=slot/\0<=age
 ·rw[AeT h];exact SG l slot age h
 ·rw[AeS h];exact SH l slot age (by
   by_cases h1:checkNb l=0
   ·exact .inr (by by_cases h2:0<=slot
                   ·exact .inr (by by_cases h3:0<=age
                                   ·exact absurd ⟨h1,h2,h3⟩ h
                                   ·omega)
                   ·exact .inl (by omega))
   ·exact .inl h1)
end Go.Proofs.P
end
section
namespace Go.Proofs
open Go Go.Sx Go.Proofs.T Go.Proofs.Q
set_option maxRecDepth 4000
attribute [local irreducible] VR VC thenQ blockQ retL
theorem H0 (n m:Int):FnS Tryz.prog 233 [AI n,AI m] [] (AB (decide (0<=n/\n<=m))) []:=by
 refine fb Tryz.func233 (by kernel_rfl) rfl Tryz.ntmps233 Tryz.results233 rfl rfl rfl rfl fun E hS=>?_
 repeat'(first|refine sB ?_|refine Aj rfl (by exact tt0) ?_|(refine Ax rfl ?_ ?_<;>intro h<;>have hq:=h<;>(try simp only[hqs] at hq))|fail)
 ·refine As Ab rfl ?_;exact decide_eq_decide.2 (by omega)
 ·refine As Ab rfl ?_;exact Aee (by omega)
theorem Sv (n:Int):FnS Tryz.prog 282 [AI n] [] (AB (decide (-32768<=n/\n<=32767))) []:=by
 refine fb Tryz.func282 (by kernel_rfl) rfl Tryz.ntmps282 Tryz.results282 rfl rfl rfl rfl fun E hS=>?_
 repeat'(first|refine sB ?_|refine Aj rfl (by exact tt0) ?_|(refine Ax rfl ?_ ?_<;>intro h<;>have hq:=h<;>(try simp only[hqs] at hq))|fail)
 ·refine As Ab rfl ?_;exact decide_eq_decide.2 (by omega)
 ·refine As Ab rfl ?_;exact Aee (by omega)
theorem IB (f:Fr):FnS Tryz.prog 281 [frA f] [] (AB (decide (0<=f.target/\f.target<=31/\f.target≠f.source))) []:=by
 refine fb Tryz.func281 (by kernel_rfl) rfl Tryz.ntmps281 Tryz.results281 rfl rfl rfl rfl fun E hS=>?_
 repeat'(first|refine sB ?_|refine Aj rfl (by exact tt0) ?_|(refine gC ?_;first|refine Aa (H0 _ _) (gk rfl) rfl rfl rfl (by rfl) rfl (by rfl) rfl ?_)|(refine Ax rfl ?_ ?_<;>intro h<;>have hq:=h<;>(try simp only[hqs] at hq))|fail)
 ·refine As Ab rfl ?_;exact decide_eq_decide.2 (by omega)
 ·refine As Ab rfl ?_;exact Aee (by omega)
def Dk (f:Fr):Fr×Bool:=
 if f.kind=1 then({f with Ca:=0,number:=0,data:=⟨#[]⟩},decide ((0<=f.target/\f.target<=31/\f.target≠f.source)/\(0<=f.Ca/\f.Ca<=255)/\0<=f.number/\f.number<=65535))
 else if f.kind=2 then({f with err:=0},decide ((0<=f.target/\f.target<=31/\f.target≠f.source)/\-32768<=f.err/\f.err<=32767))
 else if f.kind=3 then({f with slot:=0,rank:=0,epoch:=0,data:=⟨#[]⟩},decide (f.target=-1/\(0<=f.slot/\f.slot<=109951162)/\(0<=f.rank/\f.rank<=65535)/\0<=f.epoch/\f.epoch<=65535))
 else if f.kind=4 then({f with data:=⟨#[]⟩},decide (f.target=-1\/(0<=f.target/\f.target<=31/\f.target≠f.source)))
 else(f,false)
set_option maxHeartbeats 1000000 in
theorem P4 (f:Fr):FnS Tryz.prog 232 [frA f] [] (.tup [frA (Dk f).1,AB (Dk f).2]) []:=by
 refine fb Tryz.func232 (by kernel_rfl) rfl Tryz.ntmps232 Tryz.results232 rfl rfl rfl rfl fun E hS=>?_
 by_cases h1:f.kind=1
 ·have d1:decide (f.kind=1)=true:=Aed h1;rw[Dk,AeT h1]
  repeat'(first|refine sC ?_|refine Aj rfl (by exact tt0) ?_|(refine gC ?_;first|refine Aa (H0 _ _) (gk rfl) rfl rfl rfl (by rfl) rfl (by rfl) rfl ?_|refine Aa (IB f) (gk rfl) rfl rfl rfl (by rfl) rfl (by rfl) rfl ?_)|(refine Ax rfl ?_ ?_<;>intro h<;>have hq:=h<;>(try simp only[hqs] at hq))|(refine gD ?_;first|refine Ah rfl ?_|refine At rfl (by assumption) ?_)|fail)
  all_goals
   refine AL Ab rfl rfl rfl rfl rfl rfl (congrArg D.bool ?_)
   first|exact decide_eq_decide.2 (by omega)|exact Aee (by omega)|exact Aed (by omega)
 have d1:decide (f.kind=1)=false:=Aee h1;by_cases h2:f.kind=2
 ·have d2:decide (f.kind=2)=true:=Aed h2;rw[Dk,AeS h1,AeT h2]
  repeat'(first|refine sC ?_|refine Aj rfl (by exact tt0) ?_|(refine gC ?_;first|refine Aa (Sv _) (gk rfl) rfl rfl rfl (by rfl) rfl (by rfl) rfl ?_|refine Aa (IB f) (gk rfl) rfl rfl rfl (by rfl) rfl (by rfl) rfl ?_)|(refine Ax rfl ?_ ?_<;>intro h<;>have hq:=h<;>(try simp only[hqs] at hq))|(refine gD ?_;first|refine Ah rfl ?_|refine Ag rfl ?_|refine At rfl (by assumption) ?_)|fail)
  all_goals
   refine AL Ab rfl rfl rfl rfl rfl rfl (congrArg D.bool ?_)
   first|exact decide_eq_decide.2 (by omega)|exact Aee (by omega)|exact Aed (by omega)
 have d2:decide (f.kind=2)=false:=Aee h2;by_cases h3:f.kind=3
 ·have d3:decide (f.kind=3)=true:=Aed h3;rw[Dk,AeS h1,AeS h2,AeT h3]
  repeat'(first|refine sC ?_|refine Aj rfl (by exact tt0) ?_|(refine gC ?_;first|refine Aa (H0 _ _) (gk rfl) rfl rfl rfl (by rfl) rfl (by rfl) rfl ?_)|(refine Ax rfl ?_ ?_<;>intro h<;>have hq:=h<;>(try simp only[hqs] at hq))|(refine gD ?_;first|refine Ah rfl ?_|refine Ag rfl ?_|refine At rfl (by assumption) ?_)|fail)
  all_goals
   refine AL Ab rfl rfl rfl rfl rfl rfl (congrArg D.bool ?_)
   first|exact decide_eq_decide.2 (by omega)|exact Aee (by omega)|exact Aed (by omega)
 have d3:decide (f.kind=3)=false:=Aee h3;by_cases h4:f.kind=4
 ·have d4:decide (f.kind=4)=true:=Aed h4;rw[Dk,AeS h1,AeS h2,AeS h3,AeT h4]
  repeat'(first|refine sC ?_|refine Aj rfl (by exact tt0) ?_|(refine gC ?_;first|refine Aa (IB f) (gk rfl) rfl rfl rfl (by rfl) rfl (by rfl) rfl ?_)|(refine Ax rfl ?_ ?_<;>intro h<;>have hq:=h<;>(try simp only[hqs] at hq))|(refine gD ?_;first|refine Ah rfl ?_|refine Ag rfl ?_|refine At rfl (by assumption) ?_)|fail)
  all_goals
   refine AL Ab rfl rfl rfl rfl rfl rfl (congrArg D.bool ?_)
   first|exact decide_eq_decide.2 (by omega)|exact Aee (by omega)|exact Aed (by omega)
 have d4:decide (f.kind=4)=false:=Aee h4;rw[Dk,AeS h1,AeS h2,AeS h3,AeS h4]
 repeat'(first|refine sC ?_|refine Aj rfl (by exact tt0) ?_|(refine gD ?_;first|refine Ag rfl ?_|refine At rfl (by assumption) ?_)|fail)
 exact AL Ab rfl rfl rfl rfl rfl rfl rfl
def Ry (f:Fr):Fr:=⟨f.kind,f.source,f.target,f.list,f.seq,0,0,0,0,0,0,⟨#[]⟩⟩
def inS (f:Fr):Bool:=decide ((0<=f.source/\f.source<=31)/\(0<=f.list/\f.list<=255)/\0<=f.seq/\f.seq<=255)
def H5 (f:Fr):Int:=if(Dk f).2=true/\(Dk f).1=Ry f/\inS f=true then 0 else 1
set_option maxHeartbeats 1000000 in
theorem Ku (f:Fr):FnS Tryz.prog 168 [frA f] [] (AI (H5 f)) []:=by
 refine fb Tryz.func168 (by kernel_rfl) rfl Tryz.ntmps168 Tryz.results168 rfl rfl rfl rfl fun E hS=>?_
 repeat'(first|refine sB ?_|refine Aj rfl (by exact tt0) ?_|(refine gC ?_;first|refine Aa (P4 f) (gk rfl) rfl rfl rfl (by rfl) rfl (by rfl) rfl ?_|refine Aa (H0 _ _) (gk rfl) rfl rfl rfl (by rfl) rfl (by rfl) rfl ?_)|(refine gB ?_;first|refine Fu (gk rfl) rfl rfl rfl rfl rfl rfl rfl ?_)|(refine Ax rfl ?_ ?_<;>intro h<;>have hq:=h<;>(try simp only[hqs] at hq))|(refine gD ?_;first|refine Ah rfl ?_|(refine Ay rfl ?_ ?_<;>intro h<;>have hq:=h<;>(try simp only[hqs] at hq)))|fail)
 ·exact AG Ab rfl (AeS fun hh=>by rw[hq] at hh;cases hh.1)
 ·exact AG Ab rfl (AeS fun hh=>hq (Ade hh.2.1))
 ·exact AG Ab rfl (AeS fun hh=>by have:=AeC hh.2.2;omega)
 ·exact AG Ab rfl (AeS fun hh=>by have:=AeC hh.2.2;omega)
 ·exact AG Ab rfl (AeS fun hh=>by have:=AeC hh.2.2;omega)
 ·exact AG Ab rfl (AeT ⟨by assumption,Adf (x:=(Dk f).1) (y:=Ry f) (by assumption),Aed ⟨by assumption,by assumption,by assumption⟩⟩)
def Td (f:Fr) (node:Int):Bool:=decide (H5 f=0)&&decide (0<=node/\node<=31/\(f.target=node\/f.target=-1/\f.source≠node))
theorem FN (f:Fr) (node:Int):FnS Tryz.prog 245 [frA f,AI node] [] (AB (Td f node)) []:=by
 refine fb Tryz.func245 (by kernel_rfl) rfl Tryz.ntmps245 Tryz.results245 rfl rfl rfl rfl fun E hS=>?_
 repeat'(first|refine sB ?_|refine Aj rfl (by exact tt0) ?_|(refine gC ?_;first|refine Aa (Ku f) (gk rfl) rfl rfl rfl (by rfl) rfl (by rfl) rfl ?_|refine Aa (H0 _ _) (gk rfl) rfl rfl rfl (by rfl) rfl (by rfl) rfl ?_)|(refine Ax rfl ?_ ?_<;>intro h<;>have hq:=h<;>(try simp only[hqs] at hq))|fail)
 all_goals
  refine As Ab rfl ?_;unfold Td
  first
   |(rw[Aee (p:=H5 f=0) (by assumption)];rfl)
   |(rw[Aed (p:=H5 f=0) (by assumption)]
     first|exact Aed (by omega)|exact Aee (by omega)|exact decide_eq_decide.2 (by omega))
abbrev Acg (f:Fr):Prop:=0<=f.target/\f.target<=31/\f.target≠f.source
abbrev inP (f:Fr):Prop:=(0<=f.source/\f.source<=31)/\(0<=f.list/\f.list<=255)/\0<=f.seq/\f.seq<=255
abbrev okP (f:Fr):Prop:=inP f/\((f.kind=1/\Acg f/\(0<=f.Ca/\f.Ca<=255)/\(0<=f.number/\f.number<=65535)/\f.err=0/\f.slot=0/\f.rank=0/\f.epoch=0)
 \/ (f.kind=2/\Acg f/\(-32768<=f.err/\f.err<=32767)/\f.Ca=0/\f.number=0/\f.slot=0/\f.rank=0/\f.epoch=0/\f.data=⟨#[]⟩)
 \/ (f.kind=3/\f.target=-1/\(0<=f.slot/\f.slot<=109951162)/\(0<=f.rank/\f.rank<=65535)/\(0<=f.epoch/\f.epoch<=65535)/\f.Ca=0/\f.number=0/\f.err=0)
 \/ (f.kind=4/\(f.target=-1\/Acg f)/\f.Ca=0/\f.number=0/\f.err=0/\f.slot=0/\f.rank=0/\f.epoch=0))
theorem IH (f:Fr):H5 f=0↔okP f:=by
 have hd:∀{p:Prop} [Decidable p],(if p then(0:Int) else 1)=0↔p:=fun{p} _=>by split<;>simp_all
 unfold H5;rw[hd];unfold okP inP Acg inS;obtain⟨kind,source,target,list,seq,Ca,number,err,slot,rank,epoch,data⟩:=f;by_cases h1:kind=1
 ·subst h1;simp only[Dk,Ry,AeT,Fr.mk.injEq,Aef,true_and,and_true];constructor
  ·rintro⟨h,h2,h3⟩;exact⟨h3,.inl ⟨h.1,h.2.1,h.2.2,by omega,by omega,by omega,by omega⟩⟩
  ·rintro⟨h3,h|h|h|h⟩
   ·exact⟨⟨h.1,h.2.1,h.2.2.1⟩,by omega,h3⟩
   ·exact absurd h.1 (by decide)
   ·exact absurd h.1 (by decide)
   ·exact absurd h.1 (by decide)
 by_cases h2:kind=2
 ·subst h2;simp only[Dk,Ry,AeT,AeS (show ¬(2:Int)=1 by decide),Fr.mk.injEq,Aef,true_and,and_true];constructor
  ·rintro⟨h,h2,h3⟩;exact⟨h3,.inr (.inl ⟨h.1,h.2,h2.1,h2.2.1,h2.2.2.1,h2.2.2.2.1,h2.2.2.2.2.1,h2.2.2.2.2.2⟩)⟩
  ·rintro⟨h3,h|h|h|h⟩
   ·exact absurd h.1 (by decide)
   ·exact⟨⟨h.1,h.2.1⟩,h.2.2,h3⟩
   ·exact absurd h.1 (by decide)
   ·exact absurd h.1 (by decide)
 by_cases h3:kind=3
 ·subst h3;simp only[Dk,Ry,AeT,AeS (show ¬(3:Int)=1 by decide),AeS (show ¬(3:Int)=2 by decide),Fr.mk.injEq,Aef,true_and,and_true];constructor
  ·rintro⟨h,h2,h3⟩;exact⟨h3,.inr (.inr (.inl ⟨h.1,h.2.1,h.2.2.1,h.2.2.2,by omega,by omega,by omega⟩))⟩
  ·rintro⟨h3,h|h|h|h⟩
   ·exact absurd h.1 (by decide)
   ·exact absurd h.1 (by decide)
   ·exact⟨⟨h.1,h.2.1,h.2.2.1,h.2.2.2.1⟩,by omega,h3⟩
   ·exact absurd h.1 (by decide)
 by_cases h4:kind=4
 ·subst h4;simp only[Dk,Ry,AeT,AeS (show ¬(4:Int)=1 by decide),AeS (show ¬(4:Int)=2 by decide),AeS (show ¬(4:Int)=3 by decide),Fr.mk.injEq,Aef,true_and,and_true];constructor
  ·rintro⟨h,h2,h3⟩;exact⟨h3,.inr (.inr (.inr ⟨h,by omega,by omega,by omega,by omega,by omega,by omega⟩))⟩
  ·rintro⟨h3,h|h|h|h⟩
   ·exact absurd h.1 (by decide)
   ·exact absurd h.1 (by decide)
   ·exact absurd h.1 (by decide)
   ·exact⟨h.1,by omega,h3⟩
 ·simp[Dk,AeS h1,AeS h2,AeS h3,AeS h4];intros;omega
end Go.Proofs
end
section
namespace Go.Proofs.R
open Go Go.Sx Go.Proofs.P
set_option maxRecDepth 4000
attribute [local irreducible] VR VC thenQ blockQ retL
theorem Pv {P:Program} {σ:St} {t u v q nm:Nat} {T:TypeId} {ti:TyI} {cs cs':List C} {x x' y y' z z':D} {e:Exit} (he:e=.normal\/e=.ret) [ht:AM P T ti] (hx:σ (.s t)=some (.v (.c (.ptr nm 0)))) (hb:σ (.b nm)=some (.k (.box cs'))) (hagg:ti.isAgg=true)
  (hl:(cs'.take ti.size).length=ti.size) (hu:σ (.s u)=some (.v (AD x'))) (hv:σ (.s v)=some (.v (AD y'))) (hq:σ (.s q)=some (.v (AD z'))) (h:cs=cs'.take ti.size) (h2:x=x') (h3:y=y') (h4:z=z'):
  Hm P [.cell t T,.tmp u,.tmp v,.tmp q] (.tup [.agg cs,AD x,AD y,AD z]) [] e σ:=
 ⟨he,[.agg ((cs'.drop 0).take ti.size),AD x',AD y',AD z'],.agg hx hb hagg hl (.tmp rfl hu (.tmp rfl hv (.tmp rfl hq .nil))),by rw[h,h2,h3,h4];rfl,fun p hp=>by cases hp⟩
def startM (i:Int):Rk×Int:=if D7 i=false then(rkZ,2) else if i=0 then(⟨0,1,-1,0,0,65535⟩,0) else(⟨i,0,-1,65535,65535,65535⟩,0)
theorem Gx (i:Int):FnS Tryz.prog 41 [AI i] [] (.tup [rkA (startM i).1,AI (startM i).2]) []:=by
 have hn:=P.Ff i;unfold startM;cases hb:D7 i with
 |false=>
  rw[hb] at hn;refine fb Tryz.func41 (by kernel_rfl) rfl Tryz.ntmps41 Tryz.results41 rfl rfl rfl rfl fun E hS=>?_
  repeat'(first|refine sB ?_|refine Aj rfl (by exact tt0) ?_|(refine gC ?_;first|refine Aa (hn) (gk rfl) rfl rfl rfl (by rfl) rfl (by exact Aw) rfl ?_)|(refine gD ?_;first|refine Ah rfl ?_)|fail)
  all_goals first|exact D5 Ab rfl rfl rfl rfl rfl rfl rfl
 |true=>
  rw[hb] at hn;rw[AeS (by simp)];by_cases h0:i=0
  ·subst h0;refine fb Tryz.func41 (by kernel_rfl) rfl Tryz.ntmps41 Tryz.results41 rfl rfl rfl rfl fun E hS=>?_
   repeat'(first|refine sB ?_|refine Aj rfl (by exact tt0) ?_|(refine gC ?_;first|refine Aa (hn) (gk rfl) rfl rfl rfl (by rfl) rfl (by exact Aw) rfl ?_)|(refine gD ?_;first|refine Ah rfl ?_|refine Ag rfl ?_)|fail)
   exact D5 Ab rfl rfl rfl rfl rfl rfl rfl
  ·rw[AeS h0];have d1:decide (i=0)=false:=Aee h0;refine fb Tryz.func41 (by kernel_rfl) rfl Tryz.ntmps41 Tryz.results41 rfl rfl rfl rfl fun E hS=>?_
   repeat'(first|refine sB ?_|refine Aj rfl (by exact tt0) ?_|(refine gC ?_;first|refine Aa (hn) (gk rfl) rfl rfl rfl (by rfl) rfl (by exact Aw) rfl ?_)|(refine gD ?_;first|refine Ag rfl ?_|refine At rfl (by assumption) ?_)|fail)
   exact D5 Ab rfl rfl rfl rfl rfl rfl rfl
def advM (r:Rk):Rk×Int×Int×Int:=if rkErr r≠0 then(rkZ,0,0,1) else if r.rank=65535 then(rkZ,0,0,12) else({r with least:=min r.least r.rank},r.epoch,r.rank,0)
theorem VJ (r:Rk):FnS Tryz.prog 124 [rkA r] [] (.tup [rkA (advM r).1,AI (advM r).2.1,AI (advM r).2.2.1,AI (advM r).2.2.2]) []:=by
 refine fb Tryz.func124 (by kernel_rfl) rfl Tryz.ntmps124 Tryz.results124 rfl rfl rfl rfl fun E hS=>?_
 repeat'(first|refine sB ?_|refine Aj rfl (by exact tt0) ?_|(refine gC ?_;first|refine Aa (Dg r) (gk rfl) rfl rfl rfl (by rfl) rfl (by exact Aw) rfl ?_)|refine Ap (by kernel_rfl) ?_|(refine gD ?_;first|(refine Ay rfl ?_ ?_<;>intro h<;>have hq:=h<;>(try simp only[hqs] at hq)))|fail)
 all_goals refine Pv Ab rfl rfl rfl rfl rfl rfl rfl ?_ ?_ ?_ ?_
 all_goals unfold advM
 all_goals repeat' split
 all_goals first|rfl|(exfalso;simp_all;done)|(exfalso;omega)|trace_state
end Go.Proofs.R
end
section
namespace Go.Proofs
open Go Go.Sx Go.Proofs.T Go.Proofs.Q
set_option maxRecDepth 4000
attribute [local irreducible] VR VC thenQ blockQ retL
theorem R6:FnS Tryz.prog 226 [] [] (.c (.ptr 100 0)) [(100,.box [.row 101 0,.d (.int .i64 0),.d (.int .i64 0)]),(101,.row 5 1 (rowOf G9 []))]:=by
 refine fb Tryz.func226 (by kernel_rfl) rfl Tryz.ntmps226 Tryz.results226 rfl rfl rfl rfl fun E hS=>?_
 refine AK ?_
 repeat'(first|refine sB ?_|refine Aj rfl (by exact tt0) ?_|fail)
 refine L4 (Mm (bx:=2) (nm:=101) (T:=5) (sz:=1) (j:=0) rfl rfl rfl) ?_;refine An (Am (l:=[(0,.c (.ptr 100 0))]) (b:=[(100,.box [.row 101 0,.d (.int .i64 0),.d (.int .i64 0)]),(101,.row 5 1 (rowOf G9 []))]) (fun n=>if n=100 then 2 else n) ?_ ?_ rfl (by rfl)) (Ds Ab (.tmp rfl rfl .nil) rfl (by repeat'(first|exact tt0|refine⟨rfl,?_⟩)))
 all_goals repeat'(first|exact tt0|refine⟨⟨_,rfl,?_⟩,?_⟩|exact .c (.ptr rfl)|exact .Bc rfl Ai|refine .box ?_|exact .nil|refine .cons ?_ ?_|exact .d|exact .row rfl rfl|fail)
theorem Zl {C:List Bool} {n w k:Nat} (hn:n<2^63) (hk:k<w):IntKind.u8.wrap (IntKind.u8.wrap (VV .and .u64 ((n:Int)/2^((w:Int)-1-(k:Int)).toNat) 1)*2^(7-(C.length:Int) % 8).toNat)=((Ql (decide (n/2^(w-1-k) % 2=1))*2^(7-C.length % 8):Nat):Int):=by
 have e1:((w:Int)-1-(k:Int)).toNat=w-1-k:=by omega
 have e2:(7-(C.length:Int) % 8).toNat=7-C.length % 8:=by omega
 have e3:(n:Int)/2^(w-1-k)=((n/2^(w-1-k):Nat):Int):=by simp
 have hlt:n/2^(w-1-k)<2^64:=by
  have:=Nat.div_le_self n (2^(w-1-k));omega
 have hm:C.length % 8<8:=Nat.mod_lt _ (by decide);have hp:2^(7-C.length % 8)<=128:=Ae4 (Nat.pow_le_pow_right (by decide) (show 7-C.length % 8<=7 by omega)) (by decide);rw[e1,e2,e3,VD hlt,Xt];have h2:n/2^(w-1-k) % 2<2:=Nat.mod_lt _ (by decide);generalize n/2^(w-1-k) % 2=b at *;rw[show IntKind.u8.wrap (b:Int)=b from wrap_u8 (by omega)];have e4:(b:Int)*2^(7-C.length % 8)=((b*2^(7-C.length % 8):Nat):Int):=by simp
 rw[e4];have h5:b*2^(7-C.length % 8)<=1*2^(7-C.length % 8):=Ae5 _ (by omega);exact wrap_u8 (by omega)
set_option maxHeartbeats 2000000 in
theorem J0 (B:List Bool) (w n:Nat) (hw:w<=63) (hn:n<2^63) (hB:B.length<=4000):FnW Tryz.prog 280 [.c (.ptr 100 0),AI w,AD (.int .u64 n)] [(100,.box [.row 101 (BH B).length,.d (.int .i64 B.length),.d (.int .i64 0)]),(101,.row 5 1 (rowOf G9 (BH B)))] [100] (.tup []) [(100,.box [.row 102 (BH (B++CK w n)).length,.d (.int .i64 (B++CK w n).length),.d (.int .i64 0)]),(102,.row 5 1 (rowOf G9 (BH (B++CK w n))))]:=by
 intro r;simp only[Cd,List.map_cons,List.map_nil,List.cons_append,List.nil_append,Nat.reduceAdd];refine FnS.Bu (enters_of Tryz.func280 (by kernel_rfl) rfl) Tryz.func280 rfl Tryz.ntmps280 Tryz.results280 rfl (by first|rfl|(simp only[AZ,wfL,AH,wfs,Ae,Ad];rfl)) rfl fun E=>?_
 refine AK ?_
 repeat'(first|refine sC ?_|refine Aj rfl (by first|exact tt0|omega) ?_|fail)
 refine AA (ι:=Nat) (fun k=>AS [(0,.c (.ptr 100 0)),(1,AI w),(2,AD (.int .u64 n)),(6,AI ((w:Int)-1-(k:Int)))] [(9100,.pin 100 (r 100)),(100,.box [.row 101 (BH (B++H7 w n k)).length,.d (.int .i64 (B++H7 w n k).length),.d (.int .i64 0)]),(101,.row 5 1 (rowOf G9 (BH (B++H7 w n k))))]) (fun k=>k<=w) (fun k=>w-k) 0 (AeV _) ?_ ?_
 ·rw[show H7 w n 0=[] from rfl,Aez,show(w:Int)-1-((0:Nat):Int)=(w:Int)-1 by omega];refine Am (fun n=>n) ?_ ?_ rfl (by(simp only[wfL,wfs,Ae,Ad];rfl))
  all_goals repeat'(first|exact tt0|refine⟨⟨_,rfl,?_⟩,?_⟩|exact .c .d|exact .c (.ptr rfl)|exact .pin rfl|exact .Bc rfl Ai|refine .box ?_|exact .nil|refine .cons ?_ ?_|exact .d|exact .row rfl rfl|fail)
 ·intro k hk;have hlen:(B++H7 w n k).length=B.length+k:=by rw[Aeh,Vx]
  rcases AeW k w with hlt|hge
  ·have dlt:decide (0<=(w:Int)-1-(k:Int))=true:=Aed (by omega);have es:=S3 w n k;have ea:B++H7 w n (k+1)=(B++H7 w n k)++[decide (n/2^(w-1-k) % 2=1)]:=by rw[es,Aey]
   generalize B++H7 w n k=C at hlen ea ⊢;have hpl:=Fh C;have hol:=NF C;have hval:=Zl (C:=C) (n:=n) (w:=w) (k:=k) hn hlt;have hfin:=Sa C (decide (n/2^(w-1-k) % 2=1));rw[<-hval,show C.length/8=((C.length:Int)/8).toNat by omega] at hfin;by_cases h8:C.length % 8=0
   ·have d8:decide ((C.length:Int) % 8=0)=true:=Aed (by omega);have eo:IA C=BH C++[0]:=AeT h8
    repeat'(first|refine sR ?_|refine Aj rfl (by first|exact tt0|omega) ?_|(refine gA ?_;first|refine Bf (gk rfl) rfl rfl rfl (by exact Al.symm) (by exact .row rfl (by rfl)) rfl rfl rfl (by(try dsimp only);omega) rfl rfl ?_)|(refine gN ?_;first|refine Ak (gk rfl) rfl rfl ?_)|refine sq 5 rfl ?_|(refine gD ?_;first|refine Ah rfl ?_|refine At rfl (by assumption) ?_)|refine BV ?_|fail)
    refine VC.le (σ':=AS [(0,.c (.ptr 100 0)),(1,AI w),(2,AD (.int .u64 n)),(6,AI ((w:Int)-1-(k:Int)))] [(9100,.pin 100 (r 100)),(100,.box [.row 101 (IA C).length,.d (.int .i64 C.length),.d (.int .i64 0)]),(101,.row 5 1 (rowOf G9 (IA C)))]) ?_ ?_
    ·rw[eo];refine Am (fun n=>if n=101 then 25 else n) ?_ ?_ rfl (by(simp only[wfL,wfs,Ae,Ad];rfl))
     all_goals repeat'(first|exact tt0|refine⟨⟨_,rfl,?_⟩,?_⟩|exact .c .d|exact .c (.ptr rfl)|exact .pin rfl|(refine .Bc ?_ Ai;rw[A4];rfl)|refine .box ?_|exact .nil|refine .cons ?_ ?_|exact .d|(refine .row rfl ?_;((try dsimp only);first|(simp only[lns]<;>omega));done)|fail)
    repeat'(first|refine sB ?_|(show VR _ _ _ (⟨_,.binOp .shl _ _ _ _,_,_,_,_⟩ :: _) _ _ _;first|refine LM (gk rfl) rfl rfl (by omega) (by(show _<=8;omega)) rfl rfl ?_)|(show VR _ _ _ (⟨_,.binOp .shr _ _ _ _,_,_,_,_⟩ :: _) _ _ _;first|refine Io (gk rfl) rfl rfl (by omega) (by(show _<=64;omega)) rfl ?_)|refine Aj rfl (by first|exact tt0|omega) ?_|(refine gI ?_;first|refine Fv (gk rfl) rfl rfl rfl rfl rfl (by omega) (by exact Al.symm) rfl ?_)|(refine gN ?_;first|refine Ak (gk rfl) rfl rfl ?_)|(refine gL ?_;first|refine Cn (gk rfl) rfl rfl (by omega) rfl rfl rfl ?_)|(refine gS ?_;first|refine By (gk rfl) rfl rfl rfl (by omega) rfl rfl rfl ?_)|(refine gV ?_;first|refine CX (gk rfl) rfl ⟨_,rfl⟩ rfl rfl ?_)|(refine gB ?_;first|refine O9 (gk rfl) rfl rfl rfl rfl rfl ?_)|refine Ap (by kernel_rfl) ?_|fail)
    refine⟨k+1,by omega,by omega,?_⟩;rw[ea,<-hfin,show(w:Int)-1-((k+1:Nat):Int)=(w:Int)-1-(k:Int)-1 by omega,show(((C++[decide (n/2^(w-1-k) % 2=1)]).length:Nat):Int)=(C.length:Int)+1 by simp];refine Am (fun n=>n) ?_ ?_ rfl (by(simp only[wfL,wfs,Ae,Ad];rfl))
    all_goals repeat'(first|exact tt0|refine⟨⟨_,rfl,?_⟩,?_⟩|exact .c .d|exact .c (.ptr rfl)|exact .pin rfl|exact .Bc (Dx rfl) Ai|refine .box ?_|exact .nil|refine .cons ?_ ?_|exact .d|(refine .row rfl ?_;((try dsimp only);first|(simp only[lns]<;>omega));done)|fail)
   ·have d8:decide ((C.length:Int) % 8=0)=false:=Aee (by omega);have eo:IA C=BH C:=AeS h8
    repeat'(first|refine sR ?_|refine Aj rfl (by first|exact tt0|omega) ?_|(refine gN ?_;first|refine Ak (gk rfl) rfl rfl ?_)|refine sq 5 rfl ?_|(refine gD ?_;first|refine Ah rfl ?_|refine Ag rfl ?_|refine At rfl (by assumption) ?_)|refine BV ?_|fail)
    refine VC.le (σ':=AS [(0,.c (.ptr 100 0)),(1,AI w),(2,AD (.int .u64 n)),(6,AI ((w:Int)-1-(k:Int)))] [(9100,.pin 100 (r 100)),(100,.box [.row 101 (IA C).length,.d (.int .i64 C.length),.d (.int .i64 0)]),(101,.row 5 1 (rowOf G9 (IA C)))]) ?_ ?_
    ·rw[eo];refine Am (fun n=>n) ?_ ?_ rfl (by(simp only[wfL,wfs,Ae,Ad];rfl))
     all_goals repeat'(first|exact tt0|refine⟨⟨_,rfl,?_⟩,?_⟩|exact .c .d|exact .c (.ptr rfl)|exact .pin rfl|exact .Bc rfl Ai|refine .box ?_|exact .nil|refine .cons ?_ ?_|exact .d|exact .row rfl rfl|fail)
    repeat'(first|refine sB ?_|(show VR _ _ _ (⟨_,.binOp .shl _ _ _ _,_,_,_,_⟩ :: _) _ _ _;first|refine LM (gk rfl) rfl rfl (by omega) (by(show _<=8;omega)) rfl rfl ?_)|(show VR _ _ _ (⟨_,.binOp .shr _ _ _ _,_,_,_,_⟩ :: _) _ _ _;first|refine Io (gk rfl) rfl rfl (by omega) (by(show _<=64;omega)) rfl ?_)|refine Aj rfl (by first|exact tt0|omega) ?_|(refine gI ?_;first|refine Fv (gk rfl) rfl rfl rfl rfl rfl (by omega) (by exact Al.symm) rfl ?_)|(refine gN ?_;first|refine Ak (gk rfl) rfl rfl ?_)|(refine gL ?_;first|refine Cn (gk rfl) rfl rfl (by omega) rfl rfl rfl ?_)|(refine gS ?_;first|refine By (gk rfl) rfl rfl rfl (by omega) rfl rfl rfl ?_)|(refine gV ?_;first|refine CX (gk rfl) rfl ⟨_,rfl⟩ rfl rfl ?_)|(refine gB ?_;first|refine O9 (gk rfl) rfl rfl rfl rfl rfl ?_)|refine Ap (by kernel_rfl) ?_|fail)
    refine⟨k+1,by omega,by omega,?_⟩;rw[ea,<-hfin,show(w:Int)-1-((k+1:Nat):Int)=(w:Int)-1-(k:Int)-1 by omega,show(((C++[decide (n/2^(w-1-k) % 2=1)]).length:Nat):Int)=(C.length:Int)+1 by simp];refine Am (fun n=>n) ?_ ?_ rfl (by(simp only[wfL,wfs,Ae,Ad];rfl))
    all_goals repeat'(first|exact tt0|refine⟨⟨_,rfl,?_⟩,?_⟩|exact .c .d|exact .c (.ptr rfl)|exact .pin rfl|exact .Bc (Dx rfl) Ai|refine .box ?_|exact .nil|refine .cons ?_ ?_|exact .d|(refine .row rfl ?_;((try dsimp only);first|(simp only[lns]<;>omega));done)|fail)
  ·have dlt:decide (0<=(w:Int)-1-(k:Int))=false:=Aee (by omega);have hk':k=w:=by omega
   subst hk';rw[show H7 k n k=CK k n from rfl]
   repeat'(first|refine sB ?_|refine Aj rfl (by exact tt0) ?_|(refine gD ?_;first|refine Ag rfl ?_|refine At rfl (by assumption) ?_)|fail)
   refine An (Am (l:=[]) (b:=[(9100,.pin 100 (r 100)),(100,.box [.row 102 (BH (B++CK k n)).length,.d (.int .i64 (B++CK k n).length),.d (.int .i64 0)]),(102,.row 5 1 (rowOf G9 (BH (B++CK k n))))]) (fun n=>if n=102 then 101 else n) ?_ ?_ rfl (by(simp only[wfL,wfs,Ae,Ad];rfl))) (Ds BO .nil rfl (by repeat'(first|exact tt0|refine⟨rfl,?_⟩)))
   all_goals repeat'(first|exact tt0|refine⟨⟨_,rfl,?_⟩,?_⟩|exact .pin rfl|exact .Bc rfl Ai|refine .box ?_|exact .nil|refine .cons ?_ ?_|exact .d|exact .row rfl rfl|fail)
end Go.Proofs
end
