/-
  What functions of the program hand back, and plain laws on that. No condition.
-/
import Derived.Test.YtdlcbilgemnomaaGreatSxMai
import Derived.Test.YtdlcbilgemnomaaGreatSxMah
import Derived.Test.YtdlcbilgemnomaaGreatSxMag
import Derived.Test.YtdlcbilgemnomaaGreatSxMab
import Derived.Test.YtdlcbilgemnomaaGreatSxLibC
import Derived.Test.YtdlcbilgemnomaaGreatSxMae
import Derived.Test.YtdlcbilgemnomaaGreatSxMac
import Derived.Test.YtdlcbilgemnomaaGreatSxMad
import Derived.Test.YtdlcbilgemnomaaGreatSxMaf
set_option linter.unusedSimpArgs false
set_option linter.unusedVariables false
section
namespace Go.Proofs
open Go Go.Sx Go.Proofs.T Go.Proofs.Q
set_option maxRecDepth 4000
attribute [local irreducible] VR VC thenQ blockQ retL
def Xo (h:Hd) (c:C):List C:=Ec ((Hd.enc h).map C.d) 4 [c]
def DE (l:List Hd) (i nm:Nat):List (List C):=(rowOf Hd.enc l).set i (Xo (l.getD i default) (.row nm (l.getD i default).AQ.length))
theorem Fj {l:List Hd} {i nm:Nat}:(DE l i nm).length=l.length:=by simp[DE,Al]
theorem Ke {l:List Hd} {i nm k:Nat}:(DE l i nm).map (fun cs=>cs.map (C.shift k))=DE l i (k+nm):=by
 unfold DE;rw[List.map_set,Cr]
 rfl
theorem Bi {l:List Hd} {i nm T:Nat} (hi:i<l.length):(Blk.row T 5 (DE l i nm)).names=[nm]:=by
 have h1:∀m:List Hd,(rowOf Hd.enc m).flatMap (fun cs=>cs.flatMap C.names)=[]:=fun m=>AY (T:=T) (sz:=5) (enc:=Hd.enc) (l:=m)
 show(DE l i nm).flatMap (fun cs=>cs.flatMap C.names)=[nm];unfold DE;rw[List.set_eq_take_append_cons_drop,AeT (by rw[Al];exact hi),List.flatMap_append,List.flatMap_cons,CH,Eu,h1,h1]
 rfl
theorem Ea {l:List Hd} {i nm k:Nat} (hk:k<l.length) (hik:k≠i):(DE l i nm)[k]?=some ((Hd.enc (l.getD k default)).map C.d):=by
 unfold DE;rw[AeA (fun e=>hik e.symm),Cc hk]
theorem GM {l:List Hd} {i nm:Nat} (hi:i<l.length):(DE l i nm)[i]?=some (Xo (l.getD i default) (.row nm (l.getD i default).AQ.length)):=by
 unfold DE;exact It (Cc hi)
theorem JA {σ:St} {f:Nat->Nat} {L:List Nat} {T:Nat} {xs ys:List (List C)} (hl:xs.length=ys.length) (h:∀i,i<ys.length->∀a b,xs[i]?=some a->ys[i]?=some b->A3 (CW σ f L) a b):BW σ f L (.row T 5 xs) (.row T 5 ys):=by
 refine .row (A3.QV hl fun i a b ha hb=>h i ?_ a b ha hb);exact(AeX.1 hb).1
theorem Jx {σ:St} {f:Nat->Nat} {L:List Nat} (x:Hd):A3 (CW σ f L) ((Hd.enc x).map C.d) ((Hd.enc x).map C.d):=CWs.refl (by simp[Hd.enc,C.isD])
theorem Adq {σ:St} {f:Nat->Nat} {L:List Nat} {T i nm nm':Nat} {l:List Hd} (hi:i<l.length) (hf:f nm'=nm):
  BW σ f L (.row T 5 ((rowOf Hd.enc l).set i (Ec ((Hd.enc (l.getD i default)).map C.d) 4 [.row nm (l.getD i default).AQ.length]))) (.row T 5 (DE l i nm')):=by
 refine JA (by simp[DE]) fun k hk a b ha hb=>?_
 rw[Fj] at hk;by_cases hik:k=i
 ·subst hik;rw[It (Cc hi)] at ha;rw[GM hi] at hb;injection ha with ha;subst ha
  injection hb with hb;subst hb
  exact .cons .d (.cons .d (.cons .d (.cons .d (.cons (.row hf rfl) .nil))))
 ·rw[AeA (fun e=>hik e.symm),Cc hk] at ha;rw[Ea hk hik] at hb;injection ha with ha;subst ha
  injection hb with hb;subst hb
  exact Jx _
theorem Z3 {σ:St} {f:Nat->Nat} {L:List Nat} {T i k nm nm':Nat} {l:List Hd} {c:C} (hi:i<l.length) (hk:k<l.length) (hik:k≠i) (hf:f nm'=nm) (hc:CW σ f L c (.d (ints (l.getD k default).AQ))):
  BW σ f L (.row T 5 ((DE l i nm).set k (Ec ((Hd.enc (l.getD k default)).map C.d) 4 [c]))) (.row T 5 (DE l i nm')):=by
 refine JA (by simp[DE]) fun j hj a b ha hb=>?_
 rw[Fj] at hj;by_cases hjk:j=k
 ·subst hjk;rw[It (Ea hk hik)] at ha;rw[Ea hk hik] at hb;injection ha with ha;subst ha
  injection hb with hb;subst hb
  exact .cons .d (.cons .d (.cons .d (.cons .d (.cons hc .nil))))
 ·rw[AeA (fun e=>hjk e.symm)] at ha;by_cases hji:j=i
  ·subst hji;rw[GM hi] at ha hb;injection ha with ha;subst ha
   injection hb with hb;subst hb
   exact .cons .d (.cons .d (.cons .d (.cons .d (.cons (.row hf rfl) .nil))))
  ·rw[Ea hj hji] at ha hb;injection ha with ha;subst ha
   injection hb with hb;subst hb
   exact Jx _
theorem Adr {σ:St} {f:Nat->Nat} {L:List Nat} {T i nm nm':Nat} {l:List Hd} (hi:i<l.length) (hf:f nm'=nm):BW σ f L (.row T 5 (DE l i nm)) (.row T 5 (DE l i nm')):=by
 refine JA (by simp[DE]) fun j hj a b ha hb=>?_
 rw[Fj] at hj;by_cases hji:j=i
 ·subst hji;rw[GM hi] at ha hb;injection ha with ha;subst ha
  injection hb with hb;subst hb
  exact .cons .d (.cons .d (.cons .d (.cons .d (.cons (.row hf rfl) .nil))))
 ·rw[Ea hj hji] at ha hb;injection ha with ha;subst ha
  injection hb with hb;subst hb
  exact Jx _
theorem Rf {σ:St} {L:List Nat} {nm nm3 n T T3 i:Nat} {l:List Hd} (hi:i<l.length) (hL:nm∈L) (hb:σ (.b nm)=some (.k (.row T 5 (DE l i nm3)))) (hL3:nm3∈L) (hb3:σ (.b nm3)=some (.k (.row T3 1 (rowOf FQ.enc (l.getD i default).AQ)))) (hn:n=l.length):
  CR σ L (.row nm n) (.d (hds l)):=by
 subst hn;refine .Acj (cf:=fun k j=>if k=i then(Xo (l.getD i default) (.row nm3 (l.getD i default).AQ.length)).getD j (.d .Dh) else .d ((Hd.enc (l.getD k default)).getD j .Dh)) hL hb (by rw[Fj];exact AeU _) (fun k x hk hx j hj=>?_) (fun k j hk hj=>?_)
 ·have:j=0\/j=1\/j=2\/j=3\/j=4:=by omega
  by_cases hki:k=i
  ·subst hki;rw[GM hi] at hx;injection hx with hx;subst hx
   rw[AeT rfl];rcases this with rfl|rfl|rfl|rfl|rfl<;>rfl
  ·rw[Ea hk hki] at hx;injection hx with hx;subst hx
   rw[AeS hki];rcases this with rfl|rfl|rfl|rfl|rfl<;>rfl
 ·have:j=0\/j=1\/j=2\/j=3\/j=4:=by omega
  by_cases hki:k=i
  ·subst hki;rw[AeT rfl];rcases this with rfl|rfl|rfl|rfl|rfl
   ·exact .d
   ·exact .d
   ·exact .d
   ·exact .d
   ·exact A9 hL3 hb3 rfl fun _=>rfl
  ·rw[AeS hki];exact .d
set_option maxHeartbeats 2000000 in
theorem Qd (s:Sta) (hck:AT s=0) (i:Nat) (hi:i<s.held.length):FnS Tryz.prog 160 [stA s] [] (.agg (s.csR (.row 101 s.held.length) (.row 102 s.seen.length)))
  [(101,.row 110 5 (DE s.held i 103)),(102,.row 123 2 (rowOf Sn.enc s.seen)),(103,.row 3 1 (rowOf FQ.enc (s.held.getD i default).AQ))]:=by
 obtain⟨hT,hQ,_,hH,hSn,_,_⟩:=Bl hck;have hTl:=Cm hT;have hQl:=CJ hQ;have hHl:=DZ hH;have hSl:=JO hSn;refine fb Tryz.func160 (by kernel_rfl) rfl Tryz.ntmps160 Tryz.results160 rfl rfl rfl rfl fun E hS=>?_
 refine AK ?_
 repeat'(first|refine sC ?_|refine Aj rfl (by exact tt0) ?_|(refine gC ?_;first|refine Aa (Mz s.tb.cells (by omega)) (gk rfl) rfl rfl rfl (by(simp only[AZ,wfL,AH,wfs,Bi hi,Ae,Ad];rfl)) rfl (by exact B2) rfl ?_|refine Aa (GQ s.qu.Af (by omega)) (gk rfl) rfl rfl rfl (by(simp only[AZ,wfL,AH,wfs,Bi hi,Ae,Ad];rfl)) rfl (by exact B2) rfl ?_|refine Aa (Rh s.held (by omega)) (gk rfl) rfl rfl rfl (by(simp only[AZ,wfL,AH,wfs,Bi hi,Ae,Ad];rfl)) rfl (by exact B2) rfl ?_|refine Aa (Rg s.seen (by omega)) (gk rfl) rfl rfl rfl (by(simp only[AZ,wfL,AH,wfs,Bi hi,Ae,Ad];rfl)) rfl (by exact B2) rfl ?_)|(refine gE ?_;first|refine BA (gk rfl) rfl rfl (by exact Al.symm) rfl rfl ?_)|refine Ap (by kernel_rfl) ?_|fail)
 refine AA (ι:=Nat) (fun k=>if k<=i then AS [(1,.c (.ptr 1 0)),(2,.c (.ptr 2 0)),(26,AI s.held.length),(27,AI k)] [(1,.box (s.csR (.row 101 s.held.length) (.row 102 s.seen.length))),(2,.box noS.cs),(101,.row 110 5 (rowOf Hd.enc s.held)),(102,.row 123 2 (rowOf Sn.enc s.seen))] else AS [(1,.c (.ptr 1 0)),(2,.c (.ptr 2 0)),(26,AI s.held.length),(27,AI k)] [(1,.box (s.csR (.row 101 s.held.length) (.row 102 s.seen.length))),(2,.box noS.cs),(101,.row 110 5 (DE s.held i 103)),(102,.row 123 2 (rowOf Sn.enc s.seen)),(103,.row 3 1 (rowOf FQ.enc (s.held.getD i default).AQ))])
  (fun k=>k<=s.held.length) (fun k=>s.held.length-k) 0 (AeV _) ?_ ?_
 ·rw[AeT (AeV _)];refine Bv (fun n=>if n=101 then 18007 else if n=102 then 21007 else n) [7007,11007] hS ?_ ?_ rfl (by(simp only[wfL,wfs,Ae,Ad,Bi hi];rfl))
  all_goals repeat'(first|exact tt0|refine⟨⟨_,rfl,?_⟩,?_⟩|exact .c .d|exact .c (.ptr rfl)|exact .Bc rfl Ai|refine .box ?_|exact .nil|refine .cons ?_ ?_|exact .d|exact .row rfl rfl|exact .Ck (by(simp;done)) rfl rfl (fun _=>rfl)|fail)
 ·intro k hk;rcases AeW k s.held.length with hlt|hge
  ·have dlt:decide ((k:Int)<(s.held.length:Int))=true:=Aed (by omega);have hal:=Hl (DO (hHl.2 k hlt).1).2.2.2.2.2.2;rcases Nat.lt_trichotomy k i with hki|hki|hki
   ·rw[AeT (by omega)]
    repeat'(first|refine sC ?_|refine Aj rfl (by first|exact tt0|omega) ?_|(refine gC ?_;first|refine Aa (MA (s.held.getD k default).AQ (by omega)) (gk rfl) rfl rfl rfl (by(simp only[AZ,wfL,AH,wfs,Bi hi,Ae,Ad];rfl)) rfl (by exact B2) rfl ?_)|(refine gI ?_;first|refine BF (gk rfl) rfl rfl rfl rfl rfl rfl (by omega) (by omega) rfl ?_)|(refine gL ?_;first|refine Cn (gk rfl) rfl rfl (by omega) rfl rfl rfl ?_)|(refine gS ?_;first|refine By (gk rfl) rfl rfl rfl (by omega) rfl rfl rfl ?_)|refine Ap (by kernel_rfl) ?_|(refine gD ?_;first|refine Ah rfl ?_|refine At rfl (by assumption) ?_)|fail)
    refine⟨k+1,by omega,by omega,?_⟩;rw[AeT (by omega)];refine Bv (fun n=>n) [39007] hS ?_ ?_ rfl (by(simp only[wfL,wfs,Ae,Ad,Bi hi];rfl))
    all_goals repeat'(first|exact tt0|refine⟨⟨_,rfl,?_⟩,?_⟩|exact .c .d|exact .c (.ptr rfl)|exact .Bh rfl rfl|exact .Bc rfl Ai|refine .box ?_|exact .nil|refine .cons ?_ ?_|exact .d|exact .row rfl rfl|fail)
    exact X5 hlt (.Ck (enc:=FQ.enc) (by simp) rfl rfl (fun _=>rfl))
   ·rw[AeT (by omega)]
    repeat'(first|refine sC ?_|refine Aj rfl (by first|exact tt0|omega) ?_|(refine gC ?_;first|refine Aa (MA (s.held.getD k default).AQ (by omega)) (gk rfl) rfl rfl rfl (by(simp only[AZ,wfL,AH,wfs,Bi hi,Ae,Ad];rfl)) rfl (by exact B2) rfl ?_)|(refine gI ?_;first|refine BF (gk rfl) rfl rfl rfl rfl rfl rfl (by omega) (by omega) rfl ?_)|(refine gL ?_;first|refine Cn (gk rfl) rfl rfl (by omega) rfl rfl rfl ?_)|(refine gS ?_;first|refine By (gk rfl) rfl rfl rfl (by omega) rfl rfl rfl ?_)|refine Ap (by kernel_rfl) ?_|(refine gD ?_;first|refine Ah rfl ?_|refine At rfl (by assumption) ?_)|fail)
    refine⟨k+1,by omega,by omega,?_⟩;rw[AeS (by omega)];subst hki;refine Am (fun n=>if n=103 then 39007 else n) ?_ ?_ rfl (by(simp only[wfL,wfs,Ae,Ad,Bi hi];rfl))
    all_goals repeat'(first|exact tt0|refine⟨⟨_,rfl,?_⟩,?_⟩|exact .c .d|exact .c (.ptr rfl)|exact .Bh rfl rfl|exact .Bc rfl Ai|refine .box ?_|exact .nil|refine .cons ?_ ?_|exact .d|exact .row rfl rfl|fail)
    exact Adq hlt rfl
   ·rw[AeS (by omega)];have hne:k≠i:=by omega
    repeat'(first|refine sC ?_|(refine gI ?_;first|refine D3 (gk rfl) rfl rfl rfl rfl rfl rfl (by omega) (Fj.symm▸hlt) rfl ?_)|(refine gL ?_;first|refine Ew (gk rfl) rfl rfl (Ea hlt hne) rfl rfl rfl ?_)|(refine gS ?_;first|refine D2 (gk rfl) rfl rfl rfl (Ea hlt hne) rfl rfl rfl ?_)|refine Aj rfl (by first|exact tt0|omega) ?_|(refine gC ?_;first|refine Aa (MA (s.held.getD k default).AQ (by omega)) (gk rfl) rfl rfl rfl (by(simp only[AZ,wfL,AH,wfs,Bi hi,Ae,Ad];rfl)) rfl (by exact B2) rfl ?_)|refine Ap (by kernel_rfl) ?_|(refine gD ?_;first|refine Ah rfl ?_|refine At rfl (by assumption) ?_)|fail)
    refine⟨k+1,by omega,by omega,?_⟩;rw[AeS (by omega)];refine Bv (fun n=>n) [39007] hS ?_ ?_ rfl (by(simp only[wfL,wfs,Ae,Ad,Bi hi];rfl))
    all_goals repeat'(first|exact tt0|refine⟨⟨_,rfl,?_⟩,?_⟩|exact .c .d|exact .c (.ptr rfl)|exact .Bh rfl rfl|exact .Bc rfl Ai|refine .box ?_|exact .nil|refine .cons ?_ ?_|exact .d|exact .row rfl rfl|fail)
    exact Z3 hi hlt hne rfl (.Ck (enc:=FQ.enc) (by simp) rfl rfl (fun _=>rfl))
  ·have dlt:decide ((k:Int)<(s.held.length:Int))=false:=Aee (by omega);rw[AeS (by omega)]
   repeat'(first|refine sB ?_|refine Aj rfl (by exact tt0) ?_|(refine gD ?_;first|refine Ag rfl ?_|refine At rfl (by assumption) ?_)|fail)
   refine An (Am (l:=[(2,.c (.ptr 2 0))]) (b:=[(2,.box (s.csR (.row 101 s.held.length) (.row 102 s.seen.length))),(101,.row 110 5 (DE s.held i 103)),(102,.row 123 2 (rowOf Sn.enc s.seen)),(103,.row 3 1 (rowOf FQ.enc (s.held.getD i default).AQ))]) (fun n=>n) ?_ ?_ rfl (by(simp only[wfL,wfs,Ae,Ad,Bi hi];rfl))) (Ds Ab (.agg rfl rfl rfl rfl .nil) rfl (by repeat'(first|exact tt0|refine⟨rfl,?_⟩)))
   all_goals repeat'(first|exact tt0|refine⟨⟨_,rfl,?_⟩,?_⟩|exact .c (.ptr rfl)|exact .Bc rfl Ai|refine .box ?_|exact .nil|refine .cons ?_ ?_|exact .d|exact .row rfl rfl|fail)
   exact Adr hi rfl
end Go.Proofs
end
section
namespace Go.Proofs
open Go Go.Sx Go.Proofs.T Go.Proofs.Q
set_option maxRecDepth 4000
attribute [local irreducible] VR VC thenQ blockQ retL
set_option maxHeartbeats 2000000 in
theorem Pf (s:Sta) (slot:Int) (hck:AT s=0) (hs:0<=slot/\slot<=109951162) (i:Nat) (hi:i<s.held.length):FnS Tryz.prog 171 [stA s,AI slot] [] (.tup [.c (.ptr 100 0),AI 0]) [(100,.box (wcs s (.row 101 s.held.length) (.row 102 s.seen.length) slot (atM s.tb slot).1)),(101,.row 110 5 (DE s.held i 103)),(102,.row 123 2 (rowOf Sn.enc s.seen)),(103,.row 3 1 (rowOf FQ.enc (s.held.getD i default).AQ))]:=by
 have hc:=Dl s;rw[hck] at hc;have d1:(!decide (0<=slot/\slot<=109951162))=false:=by simp only[Bool.not_eq_false',Aef];exact hs
 refine fb Tryz.func171 (by kernel_rfl) rfl Tryz.ntmps171 Tryz.results171 rfl rfl rfl rfl fun E hS=>?_
 refine AK ?_
 repeat'(first|refine sB ?_|refine Aj rfl (by exact tt0) ?_|(refine gC ?_;first|refine Aa (hc) (gk rfl) rfl rfl rfl (by rfl) rfl (by exact Aw) rfl ?_|refine Aa (BC _ _) (gk rfl) rfl rfl rfl (by rfl) rfl (by exact Aw) rfl ?_|refine Aa (Qd s hck i hi) (gk rfl) rfl rfl rfl (by(simp only[AZ,wfL,AH,wfs,Bi hi,Ae,Ad];rfl)) rfl (by((simp only[Ep,List.map_cons,List.map_nil,Blk.shift,Cr,Ke])<;>rfl)) rfl ?_|refine Aa (MI s.tb slot) (gk rfl) rfl rfl rfl (by rfl) rfl (by exact Aw) rfl ?_)|(refine gN ?_;first|refine Ak (gk rfl) rfl rfl ?_)|(refine gD ?_;first|refine Ag rfl ?_|refine At rfl (by assumption) ?_)|fail)
 refine An (Am (l:=[(4,.c (.ptr 100 0)),(5,AI 0)]) (b:=[(100,.box (wcs s (.row 101 s.held.length) (.row 102 s.seen.length) slot (atM s.tb slot).1)),(101,.row 110 5 (DE s.held i 103)),(102,.row 123 2 (rowOf Sn.enc s.seen)),(103,.row 3 1 (rowOf FQ.enc (s.held.getD i default).AQ))]) (fun n=>if n=100 then 17 else if n=101 then 14101 else if n=102 then 14102 else if n=103 then 14103 else n) ?_ ?_ rfl (by(simp only[wfL,wfs,Ae,Ad,Bi hi];rfl))) (Ds Ab (.tmp rfl rfl (.tmp rfl rfl .nil)) rfl (by repeat'(first|exact tt0|refine⟨rfl,?_⟩)))
 all_goals repeat'(first|exact tt0|refine⟨⟨_,rfl,?_⟩,?_⟩|exact .c .d|exact .c (.ptr rfl)|exact .Bc rfl Ai|refine .box ?_|exact .nil|refine .cons ?_ ?_|exact .d|exact .row rfl rfl|fail)
 exact Adr hi rfl
theorem MR {s:Sta} {slot:Int} {c:TC} (h1:(CV s slot c).kind=1) (h2:(CV s slot c).B1=1):
  c.kind=1/\c.send=true/\∃i,Oa s.held c.Ca=some i/\¬(s.held.getD i default).til<slot/\((s.held.getD i default).AQ.any fun y=>decide (c.peer=y))=false/\CV s slot c={Adn s c (s.held.getD i default) with offset:=c.offset}:=by
 have hz:∀a:Ac,(QU a c.offset).kind=a.kind:=fun a=>by unfold QU;split<;>rfl
 have hf:∀a:Ac,(QU a c.offset).B1=a.B1:=fun a=>by unfold QU;split<;>rfl
 unfold CV at h1 h2 ⊢;rw[hz] at h1;rw[hf] at h2;unfold GZ at h1 h2 ⊢;by_cases k1:c.kind=1
 ·rw[AeT k1] at h1 h2 ⊢;unfold Vi at h1 h2 ⊢;cases hsd:c.send with
  |false=>rw[hsd,AeT rfl] at h1;cases h1
  |true=>
   rw[hsd,AeS (by simp)] at h1 h2;rw[AeS (by simp)];cases hh:Oa s.held c.Ca with
   |none=>rw[hh] at h1;cases h1
   |some i=>
    rw[hh] at h1 h2;dsimp only at h1 h2 ⊢
    split at h1
    ·cases h1
    ·rename_i hn;have h3:¬(s.held.getD i default).til<slot:=fun h=>hn (.inl h)
     have h4:((s.held.getD i default).AQ.any fun y=>decide (c.peer=y))=false:=by
      cases h:(s.held.getD i default).AQ.any fun y=>decide (c.peer=y) with
      |true=>exact absurd (.inr h) hn
      |false=>rfl
     refine⟨k1,rfl,i,rfl,h3,h4,?_⟩;rw[AeS hn];exact Jr (by intro h;cases h)
 ·rw[AeS k1] at h1 h2;by_cases k2:c.kind=2
  ·rw[AeT k2] at h1 h2;unfold Xz at h1 h2
   split at h1
   ·cases h1
   ·rename_i hsd;rw[AeS hsd] at h2
    split at h1
    ·rename_i hq;rw[AeT hq] at h2;cases h2
    ·cases h1
  ·rw[AeS k2] at h1 h2;by_cases k3:c.kind=3
   ·rw[AeT k3] at h1 h2;unfold XQ at h1 h2
    split at h1
    ·rename_i hq;rw[AeT hq] at h2;cases h2
    ·cases h1
   ·rw[AeS k3] at h1;cases h1
theorem AbU {σ:St} {f:Nat->Nat} {L:List Nat} {T i nm:Nat} {l:List Hd} {c c0:C} {x:List Int} (hi:i<l.length) (hc:CW σ f L c (.d (ints x))):
  BW σ f L (.row T 5 ((DE l i nm).set i (Ec (Xo (l.getD i default) c0) 4 [c]))) (.row T 5 (rowOf Hd.enc (l.set i {l.getD i default with AQ:=x}))):=by
 unfold DE;rw[QE];refine JA (by simp[Al]) fun j hj a b ha hb=>?_
 rw[Al,Aes] at hj;rw[Cc (by rw[Aes];exact hj)] at hb;by_cases hji:j=i
 ·subst hji;rw[It (Cc hi)] at ha;rw[Aec,List.getElem?_set_self hi] at hb;injection ha with ha;subst ha
  injection hb with hb;subst hb
  exact .cons .d (.cons .d (.cons .d (.cons .d (.cons hc .nil))))
 ·rw[AeA (fun e=>hji e.symm),Cc hj] at ha;rw[Aec,AeA (fun e=>hji e.symm),<-Aec] at hb;injection ha with ha;subst ha
  injection hb with hb;subst hb
  exact Jx _
set_option maxHeartbeats 4000000 in
theorem Xi (s:Sta) (slot:Int) (r:Rs) (hck:AT s=0) (hs:0<=slot/\slot<=109951162) (k1:(CV s slot (atM s.tb slot).1).kind=1) (k2:(CV s slot (atM s.tb slot).1).B1=1) (hac:r.AQ=true):
  FnS Tryz.prog 130 [stA s,AI slot,rsA r] [] (.tup [stA (CT s slot (atM s.tb slot).1 r).1,upA (CT s slot (atM s.tb slot).1 r).2,AI 0]) []:=by
 have e:CT s slot (atM s.tb slot).1 r=(Aas s (CV s slot (atM s.tb slot).1),zUp):=by rw[CT,AeT ⟨k1,k2⟩,AeT hac]
 obtain⟨_,_,i,hf,_,hna,ha⟩:=MR k1 k2;obtain⟨hi,hfl,_⟩:=BJ hf;have hfl:=AeC hfl;have hHl:=(DZ (Bl hck).2.2.2.1).2 i hi;have hrg:=(DO hHl.1).2.2.2.2.2.2;have hal:=Hl hrg;have hri:MW id (s.held.getD i default).AQ:=L3 fun j hj h0=>(GA hrg j hj).2.2 h0
 have hst:=Pf s slot hck hs i hi;have hao:=Cg s slot (atM s.tb slot).1 hck;have hho:=IC s slot (atM s.tb slot).1 (CV s slot (atM s.tb slot).1).Ca;rw[e];generalize atM s.tb slot=ac at *;obtain⟨c,ok⟩:=ac;dsimp only at *;have hfw:(CV s slot c).Ca=c.Ca:=by rw[ha];exact hfl
 have htg:(CV s slot c).target=c.peer:=by rw[ha];rfl
 have hfd:fdK id (s.held.getD i default).AQ (CV s slot c).target=false:=by
  rw[ZS hri,htg];rw[<-hna];exact congrArg (fun p=>(s.held.getD i default).AQ.any p) (funext fun y=>decide_eq_decide.2 eq_comm)
 rw[hfw,hf] at hho;have hho':FnS Tryz.prog 175 [wP s slot c,AI c.Ca] [] (AI (i:Nat)) []:=hho;rw[<-hfw] at hho';have d1:decide ((CV s slot c).kind=1)=true:=Aed k1;have d2:decide ((CV s slot c).B1=1)=true:=Aed k2;have e1:Aas s (CV s slot c)={s with held:=s.held.set i {s.held.getD i default with AQ:=MV id (s.held.getD i default).AQ (CV s slot c).target}}:=by
  rw[Aas,hfw,hf]
 rw[e1];have hins:=WT (s.held.getD i default).AQ (CV s slot c).target (by omega) hri hfd;have hul:(MV id (s.held.getD i default).AQ (CV s slot c).target).length=(s.held.getD i default).AQ.length+1:=by
  have:=Wa (k:=id) (x:=(CV s slot c).target) hri;rw[this,AeS (by show ¬fdK id _ (CV s slot c).target=true;rw[hfd];simp)]
 refine fb Tryz.func130 (by kernel_rfl) rfl Tryz.ntmps130 Tryz.results130 rfl rfl rfl rfl fun E hS=>?_
 refine AK ?_
 repeat'(first|refine sR ?_|refine Aj rfl (by exact tt0) ?_|(refine gC ?_;first|refine Aa (hst) (gk rfl) rfl rfl rfl (by(simp only[AZ,wfL,AH,wfs,Bi hi,Ae,Ad];rfl)) rfl (by((simp only[Ep,List.map_cons,List.map_nil,Blk.shift,Cr,Ke])<;>rfl)) rfl ?_)|refine sq 4 rfl ?_|(refine gD ?_;first|refine Ag rfl ?_)|fail)
 refine VC.le (σ':=AS [(5,.c (.ptr 5 0)),(6,.c (.ptr 6 0)),(7,.c (.ptr 7 0)),(8,AI 0),(9,.c (.ptr 100 0))] [(5,.box r.cs),(6,.box noS.cs),(7,.box zUp.cs),(100,.box (wcs s (.row 101 s.held.length) (.row 102 s.seen.length) slot c)),(101,.row 110 5 (DE s.held i 103)),(102,.row 123 2 (rowOf Sn.enc s.seen)),(103,.row 3 1 (rowOf FQ.enc (s.held.getD i default).AQ))]) ?_ ?_
 ·refine Am (fun n=>if n=100 then 19100 else if n=102 then 19102 else if n=101 then 19101 else if n=103 then 19103 else n) ?_ ?_ rfl (by(simp only[wfL,wfs,Ae,Ad,Bi hi];rfl))
  all_goals repeat'(first|exact tt0|refine⟨⟨_,rfl,?_⟩,?_⟩|exact .c .d|exact .c (.ptr rfl)|exact .Bh rfl rfl|exact .Bc rfl Ai|refine .box ?_|exact .nil|refine .cons ?_ ?_|exact .d|exact .row rfl rfl|fail)
  exact Adr hi rfl
 repeat'(first|refine sC ?_|(refine gI ?_;first|refine D3 (gk rfl) rfl rfl rfl rfl rfl rfl (by omega) (Fj.symm▸hi) rfl ?_)|(refine gL ?_;first|refine Ew (gk rfl) rfl rfl (GM hi) rfl rfl rfl ?_)|(refine gS ?_;first|refine D2 (gk rfl) rfl rfl rfl (GM hi) rfl rfl rfl ?_)|refine Aj rfl (by exact tt0) ?_|(refine gC ?_;first|refine AJ [100,101,102,103] (hao) (gk rfl) rfl (by(repeat'(first|exact .nil|refine .cons ?_ ?_|exact(KE (by simp) rfl (Rf hi (by simp) rfl (by simp) rfl rfl) (A9 (by simp) rfl rfl (fun _=>rfl)))))<;>fail) (by rfl) rfl (by rfl) rfl (by exact Aw) rfl ?_|refine AJ [100,101,102,103] (hho') (gk rfl) rfl (by(repeat'(first|exact .nil|refine .cons ?_ ?_|exact .of0 (.c .d)|exact(KE (by simp) rfl (Rf hi (by simp) rfl (by simp) rfl rfl) (A9 (by simp) rfl rfl (fun _=>rfl)))))<;>fail) (by rfl) rfl (by rfl) rfl (by exact Aw) rfl ?_|refine Cw [] (hins) (gk rfl) rfl rfl Ai rfl (by(repeat'(first|exact .nil|refine .cons ?_ ?_|exact .of0 (.c .d)))<;>fail) rfl (by rfl) rfl (by(simp only[AZ,wfL,AH,wfs,Bi hi,Ae,Ad];rfl)) rfl (by exact B2) rfl ?_)|(refine gN ?_;first|refine DX (gk rfl) rfl rfl ?_|refine Ak (gk rfl) rfl rfl ?_)|refine Az rfl (by assumption) ?_|refine Ap (by kernel_rfl) ?_|(refine gD ?_;first|refine Ah rfl ?_|refine At rfl (by assumption) ?_)|fail)
 refine L4 (σ1:=AS [(6,.c (.ptr 6 0)),(7,.c (.ptr 7 0)),(8,AI 0)] [(6,.box (s.csR (.row 101 s.held.length) (.row 102 s.seen.length))),(7,.box zUp.cs),(101,.row 110 5 (rowOf Hd.enc (s.held.set i {s.held.getD i default with AQ:=MV id (s.held.getD i default).AQ (CV s slot c).target}))),(102,.row 123 2 (rowOf Sn.enc s.seen))]) ?_ ?_
 ·refine Bv (fun n=>n) [61001] hS ?_ ?_ rfl (by(simp only[wfL,wfs,Ae,Ad,Bi hi];rfl))
  all_goals repeat'(first|exact tt0|refine⟨⟨_,rfl,?_⟩,?_⟩|exact .c .d|exact .c (.ptr rfl)|exact .Bh rfl rfl|exact .Bc rfl Ai|refine .box ?_|exact .nil|refine .cons ?_ ?_|exact .d|exact .row rfl rfl|fail)
  exact AbU hi (.Ck (enc:=FQ.enc) (by simp) rfl hul.symm (fun _=>rfl))
 refine An (Bv (l:=[(6,.c (.ptr 6 0)),(7,.c (.ptr 7 0)),(8,AI 0)]) (b:=[(6,.box (Sta.cs {s with held:=s.held.set i {s.held.getD i default with AQ:=MV id (s.held.getD i default).AQ (CV s slot c).target}})),(7,.box zUp.cs)]) (fun n=>n) [101,102] hS ?_ ?_ rfl (by rfl)) (A8 Ab rfl rfl rfl rfl rfl rfl rfl rfl rfl rfl rfl rfl)
 all_goals repeat'(first|exact tt0|refine⟨⟨_,rfl,?_⟩,?_⟩|exact .c .d|exact .c (.ptr rfl)|exact .Bh rfl rfl|refine .box ?_|exact .nil|refine .cons ?_ ?_|exact .d|exact .Ck (by(simp;done)) rfl rfl (fun _=>rfl)|(refine .Ck (by(simp;done)) rfl ?_ (fun _=>rfl);((try dsimp only);first|(simp only[lns]<;>omega));done)|fail)
theorem Ve (s:Sta) (slot:Int) (r:Rs):FnS Tryz.prog 130 [stA s,AI slot,rsA r] [] (.tup [stA (ES s slot r).1,upA (ES s slot r).2.1,AI (ES s slot r).2.2]) []:=by
 by_cases hck:AT s=0
 ·by_cases hs:0<=slot/\slot<=109951162
  ·have e:ES s slot r=((CT s slot (atM s.tb slot).1 r).1,(CT s slot (atM s.tb slot).1 r).2,0):=by rw[ES,AeS (by omega),AeS (by omega)]
   rw[e];by_cases h:(CV s slot (atM s.tb slot).1).kind=1/\(CV s slot (atM s.tb slot).1).B1=1/\r.AQ=true
   ·exact Xi s slot r hck hs h.1 h.2.1 h.2.2
   ·exact Vf s slot r hck hs h
  ·have e:ES s slot r=(noS,zUp,2):=by rw[ES,AeS (by omega),AeT (by omega)]
   rw[e];exact SQ s slot r hck hs
 ·have e:ES s slot r=(noS,zUp,1):=by rw[ES,AeT hck]
  rw[e];exact Xh s slot r hck
end Go.Proofs
end
section
namespace Go.Proofs.M
open Go Go.Sx Go.Proofs Go.Proofs.T Go.Proofs.Q
open Go.Proofs.P (Nb nbs Rk rkA rkErr checkNb hearM countM forgetM select')
open Go.Proofs.R (startM advM)
set_option maxRecDepth 4000
attribute [local irreducible] VR VC thenQ blockQ retL
set_option maxHeartbeats 2000000 in
theorem R9 (slot turns:Int) (nv:D) (loads:List Ld) (sil:List Si) (arr:List Ar) (w:Wk):PhS 91 slot turns nv loads sil arr w (SO slot arr w).2:=by
 have hm:=Ve w.nd.st slot w.rs;intro r;simp only[Cd,List.map_cons,List.map_nil,List.cons_append,List.nil_append,Nat.reduceAdd];refine FnS.Bu (enters_of Tryz.func91 (by kernel_rfl) rfl) Tryz.func91 rfl Tryz.ntmps91 Tryz.results91 rfl (by first|rfl|(simp only[AZ,wfL,AH,wfs,Ae,Ad];rfl)) rfl fun E=>?_
 refine AK ?_;show VC E _ (retL E (Hm Tryz.prog _ _ [(9100,.pin 100 (r 100)),(9101,.pin 101 (r 101)),(9102,.pin 102 (r 102)),(100,.box [.d (.int .i64 slot),.d (.int .i64 turns),.d nv,.d (lds loads),.d (sis sil),.row 102 arr.length]),(101,.box (Wk.cs (DS slot w))),(102,.row 62 3 (rowOf Ar.enc arr))])) _;cases hb:w.bc with
 |true=>
  have e:DS slot w=w:=by unfold DS;rw[AeT hb]
  rw[e]
  repeat'(first|refine sB ?_|refine Aj rfl (by exact tt0) ?_|(refine gN ?_;first|refine Ak (gk rfl) rfl rfl ?_)|(refine gD ?_;first|refine Ah rfl ?_|refine At rfl (by assumption) ?_)|fail)
  refine An (Am (l:=[]) (b:=[(9100,.pin 100 (r 100)),(9101,.pin 101 (r 101)),(9102,.pin 102 (r 102)),(100,.box [.d (.int .i64 slot),.d (.int .i64 turns),.d nv,.d (lds loads),.d (sis sil),.row 102 arr.length]),(101,.box (Wk.cs w)),(102,.row 62 3 (rowOf Ar.enc arr))]) (fun n=>n) ?_ ?_ rfl (by(simp only[wfL,wfs,Ae,Ad];rfl))) (Ds Ab .nil rfl (by repeat'(first|exact tt0|refine⟨rfl,?_⟩)))
  all_goals repeat'(first|exact tt0|refine⟨⟨_,rfl,?_⟩,?_⟩|exact .Bh rfl rfl|exact .pin rfl|exact .Bc rfl Ai|refine .box ?_|exact .nil|refine .cons ?_ ?_|exact .d|exact .row rfl rfl|fail)
 |false=>
  by_cases h:(ES w.nd.st slot w.rs).2.2=0
  ·have d1:decide ((ES w.nd.st slot w.rs).2.2=0)=true:=Aed h;have e:DS slot w=⟨⟨(ES w.nd.st slot w.rs).1,w.nd.rk,w.nd.nb,w.nd.next⟩,w.node,w.ac,w.bc,w.rs,(ES w.nd.st slot w.rs).2.1⟩:=by unfold DS;rw[AeS (by rw[hb];simp),AeT h]
   rw[e]
   repeat'(first|refine sB ?_|refine Aj rfl (by exact tt0) ?_|(refine gC ?_;first|refine Aa (hm) (gk rfl) rfl rfl rfl (by rfl) rfl (by rfl) rfl ?_)|(refine gN ?_;first|refine Ak (gk rfl) rfl rfl ?_)|refine Ap (by kernel_rfl) ?_|(refine gD ?_;first|refine Ah rfl ?_|refine Ag rfl ?_|refine At rfl (by assumption) ?_)|fail)
   refine An (Am (l:=[]) (b:=[(9100,.pin 100 (r 100)),(9101,.pin 101 (r 101)),(9102,.pin 102 (r 102)),(100,.box [.d (.int .i64 slot),.d (.int .i64 turns),.d nv,.d (lds loads),.d (sis sil),.row 102 arr.length]),(101,.box (Wk.cs ⟨⟨(ES w.nd.st slot w.rs).1,w.nd.rk,w.nd.nb,w.nd.next⟩,w.node,w.ac,w.bc,w.rs,(ES w.nd.st slot w.rs).2.1⟩)),(102,.row 62 3 (rowOf Ar.enc arr))]) (fun n=>n) ?_ ?_ rfl (by(simp only[wfL,wfs,Ae,Ad];rfl))) (Ds BO .nil rfl (by repeat'(first|exact tt0|refine⟨rfl,?_⟩)))
   all_goals repeat'(first|exact tt0|refine⟨⟨_,rfl,?_⟩,?_⟩|exact .Bh rfl rfl|exact .pin rfl|exact .Bc rfl Ai|refine .box ?_|exact .nil|refine .cons ?_ ?_|exact .d|exact .row rfl rfl|fail)
  ·have d1:decide ((ES w.nd.st slot w.rs).2.2=0)=false:=Aee h;have e:DS slot w=w:=by unfold DS;rw[AeS (by rw[hb];simp),AeS h]
   rw[e]
   repeat'(first|refine sB ?_|refine Aj rfl (by exact tt0) ?_|(refine gC ?_;first|refine Aa (hm) (gk rfl) rfl rfl rfl (by rfl) rfl (by rfl) rfl ?_)|(refine gN ?_;first|refine Ak (gk rfl) rfl rfl ?_)|refine Ap (by kernel_rfl) ?_|(refine gD ?_;first|refine Ag rfl ?_|refine At rfl (by assumption) ?_)|fail)
   refine An (Am (l:=[]) (b:=[(9100,.pin 100 (r 100)),(9101,.pin 101 (r 101)),(9102,.pin 102 (r 102)),(100,.box [.d (.int .i64 slot),.d (.int .i64 turns),.d nv,.d (lds loads),.d (sis sil),.row 102 arr.length]),(101,.box (Wk.cs w)),(102,.row 62 3 (rowOf Ar.enc arr))]) (fun n=>n) ?_ ?_ rfl (by(simp only[wfL,wfs,Ae,Ad];rfl))) (Ds BO .nil rfl (by repeat'(first|exact tt0|refine⟨rfl,?_⟩)))
   all_goals repeat'(first|exact tt0|refine⟨⟨_,rfl,?_⟩,?_⟩|exact .Bh rfl rfl|exact .pin rfl|exact .Bc rfl Ai|refine .box ?_|exact .nil|refine .cons ?_ ?_|exact .d|exact .row rfl rfl|fail)
end Go.Proofs.M
end
section
namespace Go.Proofs.M
open Go Go.Sx Go.Proofs Go.Proofs.T Go.Proofs.Q
set_option maxRecDepth 4000
attribute [local irreducible] VR VC thenQ blockQ retL
def beR (t:Tb) (turns:Int):Bool:=decide (Ci t=0)&&decide (1<=turns)&&decide (turns<=32)
theorem OI (t:Tb) (turns:Int):FnS Tryz.prog 223 [tbA t,AI turns] [] (AB (beR t turns)) []:=by
 have hck:=DT t;refine fb Tryz.func223 (by kernel_rfl) rfl Tryz.ntmps223 Tryz.results223 rfl rfl rfl rfl fun E hS=>?_
 repeat'(first|refine sB ?_|refine Aj rfl (by exact tt0) ?_|(refine gC ?_;first|refine Aa (hck) (gk rfl) rfl rfl rfl (by rfl) rfl (by rfl) rfl ?_)|(refine Ax rfl ?_ ?_<;>intro h<;>have hq:=h<;>(try simp only[hqs] at hq))|fail)
 all_goals(refine As Ab rfl ?_;unfold beR)
 all_goals first
  |(simp_all;done)
  |(simp_all;omega)
  |trace_state
theorem Kn {p:TC->Bool} {a:TC} (h:p a=true):[a].filter p=[a]:=by simp[h]
theorem Ko {p:TC->Bool} {a:TC} (h:p a=false):[a].filter p=[]:=by simp[h]
theorem IQ {t:Tb} {k:Nat} (hk:k<t.cells.length):((t.cells.take (k+1)).filter fun c=>decide (c.kind=3))=((t.cells.take k).filter fun c=>decide (c.kind=3))++(if(t.cells.getD k default).kind=3 then[t.cells.getD k default] else[]):=by
 rw[Co hk,List.filter_append]
 congr 1
 split
 ·rename_i h;exact Kn (Aed h)
 ·rename_i h;exact Ko (Aee h)
def VU (t:Tb) (k:Nat):Nat:=((t.cells.take k).filter fun c=>decide (c.kind=3)).length
theorem Vm (t:Tb) (k:Nat):VU t k<=t.cells.length:=by
 unfold VU;have h1:=AeN (fun c:TC=>decide (c.kind=3)) (t.cells.take k);rw[Aem] at h1;omega
theorem Vl {t:Tb} {k:Nat} (hk:k<t.cells.length):VU t (k+1)=if(t.cells.getD k default).kind=3 then VU t k+1 else VU t k:=by
 unfold VU;rw[IQ hk,Aeh]
 split<;>rfl
theorem MH (t:Tb) (hl:t.cells.length<=512):FnS Tryz.prog 224 [tbA t] [] (.tup [.fnc 274 [.ptr 1 0],AI (CO t).length]) [(1,.box t.cs)]:=by
 refine fb Tryz.func224 (by kernel_rfl) rfl Tryz.ntmps224 Tryz.results224 rfl rfl rfl rfl fun E hS=>?_
 repeat'(first|refine sC ?_|refine Aj rfl (by exact tt0) ?_|fail)
 refine AA (ι:=Nat) (fun k=>AS [(1,.c (.ptr 1 0)),(4,AI (VU t k)),(8,AD (tcs t.cells)),(9,AI t.cells.length),(10,AI k)] [(1,.box t.cs)]) (fun k=>k<=t.cells.length) (fun k=>t.cells.length-k) 0 (AeV _) ?_ ?_
 ·refine lg ?_ ?_ rfl (by rfl)
  all_goals repeat'(first|exact tt0|refine⟨⟨_,rfl,?_⟩,?_⟩|exact .c .d|exact .c (.ptr rfl)|exact .Bh rfl rfl|fail)
 ·intro k hk;have hcl:=Vm t k;by_cases hc:k<t.cells.length
  ·have hs:=Vl hc;have hdd:decide ((k:Int)<(t.cells.length:Int))=true:=Aed (by omega);by_cases h3:(t.cells.getD k default).kind=3
   ·rw[AeT h3] at hs;have d3:decide ((t.cells.getD k default).kind=3)=true:=Aed h3
    repeat'(first|refine sC ?_|refine Aj rfl (by first|exact tt0|omega) ?_|(refine gI ?_;first|refine Aq (gk rfl) rfl rfl rfl rfl rfl (by omega) rfl ?_)|(refine gD ?_;first|refine Ah rfl ?_|refine At rfl (by assumption) ?_)|fail)
    refine⟨k+1,by omega,by omega,?_⟩;rw[hs];refine lg ?_ ?_ rfl (by rfl)
    all_goals repeat'(first|exact tt0|refine⟨⟨_,rfl,?_⟩,?_⟩|exact .c .d|exact .c (.ptr rfl)|exact .Bh rfl rfl|fail)
   ·rw[AeS h3] at hs;have d3:decide ((t.cells.getD k default).kind=3)=false:=Aee h3
    repeat'(first|refine sC ?_|refine Aj rfl (by first|exact tt0|omega) ?_|(refine gI ?_;first|refine Aq (gk rfl) rfl rfl rfl rfl rfl (by omega) rfl ?_)|(refine gD ?_;first|refine Ah rfl ?_|refine Ag rfl ?_|refine At rfl (by assumption) ?_)|fail)
    refine⟨k+1,by omega,by omega,?_⟩;rw[hs];refine lg ?_ ?_ rfl (by rfl)
    all_goals repeat'(first|exact tt0|refine⟨⟨_,rfl,?_⟩,?_⟩|exact .c .d|exact .c (.ptr rfl)|exact .Bh rfl rfl|fail)
  ·have hdd:decide ((k:Int)<(t.cells.length:Int))=false:=Aee (by omega);have e:VU t k=(CO t).length:=by unfold VU CO;rw[AeK (by omega)]
   repeat'(first|refine sB ?_|refine Aj rfl (by exact tt0) ?_|(refine gD ?_;first|refine Ag rfl ?_|refine At rfl (by assumption) ?_)|fail)
   rw[e];exact⟨Ab,[.fnc 274 [.ptr 1 0],AI (CO t).length],.tmp rfl rfl (.tmp rfl rfl .nil),rfl,fun p hp=>by
    rw[Aer] at hp;subst hp;rfl⟩
def S5 (t:Tb) (q:Int) (k:Nat):Nat:=(((t.cells.take k).filter fun c=>decide (c.kind=3)).filter fun c=>decide (c.slot<q)).length
theorem Z9 (t:Tb) (q:Int) (k:Nat):S5 t q k<=t.cells.length:=by
 have h1:=AeN (fun c:TC=>decide (c.slot<q)) ((t.cells.take k).filter fun c=>decide (c.kind=3));have:=Vm t k;unfold S5;unfold VU at this;omega
theorem OJ {t:Tb} {q:Int} {k:Nat} (hk:k<t.cells.length):S5 t q (k+1)=if(t.cells.getD k default).kind=3/\(t.cells.getD k default).slot<q then S5 t q k+1 else S5 t q k:=by
 unfold S5;rw[IQ hk,List.filter_append,Aeh];by_cases h1:(t.cells.getD k default).kind=3
 ·rw[AeT h1];by_cases h2:(t.cells.getD k default).slot<q
  ·rw[AeT ⟨h1,h2⟩,Kn (p:=fun c=>decide (c.slot<q)) (Aed h2)];rfl
  ·rw[AeS (fun h=>h2 h.2),Ko (p:=fun c=>decide (c.slot<q)) (Aee h2)];rfl
 ·rw[AeS h1,AeS (fun h=>h1 h.1)];rfl
def Abr (t:Tb) (q:Int) (k:Nat):Prop:=∀i,i<k->¬((t.cells.getD i default).kind=3/\(t.cells.getD i default).slot=q)
theorem Q0 (t:Tb) (q:Int):N9 t q=true↔∃i,i<t.cells.length/\(t.cells.getD i default).kind=3/\(t.cells.getD i default).slot=q:=by
 unfold N9 CO;rw[Aev];constructor
 ·rintro⟨c,hc,hq⟩;obtain⟨h1,h2⟩:=AeM.1 hc;obtain⟨i,hi,e⟩:=AeH.1 h1;refine⟨i,hi,?_⟩;have e2:t.cells.getD i default=c:=by rw[Aec,Ael hi];exact e
  rw[e2];exact⟨AeC h2,AeC hq⟩
 ·rintro⟨i,hi,h1,h2⟩;refine⟨t.cells.getD i default,AeM.2 ⟨?_,Aed h1⟩,Aed h2⟩;rw[Aec,Ael hi];exact AeI hi
theorem Z8 {t:Tb} (hs:Srt t.cells) {q:Int} {k:Nat} (hk:k<t.cells.length) (hq:(t.cells.getD k default).slot=q):S5 t q k=FP t q:=by
 have key:∀m,k<=m->m<=t.cells.length->S5 t q m=S5 t q k:=by
  intro m hm
  induction m with
  |zero=>intro _;rw[show k=0 by omega]
  |succ m ih=>
   intro hl;rcases AeW k (m+1) with h1|h1
   ·rw[OJ (by omega),AeS,ih (by omega) (by omega)];rintro⟨_,h2⟩;rcases AeW k m with h3|h3
    ·have:=HU.1 (hs k m h3 (by omega));omega
    ·rw[show m=k by omega] at h2;omega
   ·rw[show k=m+1 by omega]
 have:=key t.cells.length (by omega) (AeU _);rw[<-this];unfold S5 FP CO;rw[AeK (AeU _)]
theorem Nk (t:Tb) (q:Int) (hc:Ci t=0):FnS Tryz.prog 274 [AI q,.ep (fun j=>[D.int .i64 t.node,.int .i64 t.len,tcs t.cells].getD j .Dh) 3] [] (.tup [AI (FP t q),AB (N9 t q)]) []:=by
 have hl:=(Cm hc).1;have hs:=LC hc;refine fb Tryz.func274 (by kernel_rfl) rfl Tryz.ntmps274 Tryz.results274 rfl rfl rfl rfl fun E hS=>?_
 repeat'(first|refine sC ?_|refine Aj rfl (by exact tt0) ?_|fail)
 refine AA (ι:=Nat) (fun k=>AS [(0,AI q),(3,AI 0),(4,AB false),(5,AI (S5 t q k)),(9,AD (tcs t.cells)),(10,AI t.cells.length),(11,AI k)] []) (fun k=>k<=t.cells.length/\Abr t q k) (fun k=>t.cells.length-k) 0 ⟨AeV _,fun i hi=>absurd hi (AeQ _)⟩ ?_ ?_
 ·refine lg ?_ ?_ rfl (by rfl)
  all_goals repeat'(first|exact tt0|refine⟨⟨_,rfl,?_⟩,?_⟩|exact .c .d|fail)
 ·rintro k ⟨hk,hn⟩;have hbl:=Z9 t q k;by_cases hc:k<t.cells.length
  ·have hb:=OJ (q:=q) hc;have hdd:decide ((k:Int)<(t.cells.length:Int))=true:=Aed (by omega);have next:¬((t.cells.getD k default).kind=3/\(t.cells.getD k default).slot=q)->Abr t q (k+1):=fun h i hi=>by
    rcases AeW i k with h1|h1
    ·exact hn i h1
    ·rw[show i=k by omega];exact h
   by_cases h3:(t.cells.getD k default).kind=3
   ·have d3:decide ((t.cells.getD k default).kind≠3)=false:=Aee (by simpa using h3);by_cases h4:q<(t.cells.getD k default).slot
    ·have d4:decide (q<(t.cells.getD k default).slot)=true:=Aed h4;rw[AeS (by omega)] at hb
     repeat'(first|refine sC ?_|refine Aj rfl (by first|exact tt0|omega) ?_|(refine gI ?_;first|refine Aq (gk rfl) rfl rfl rfl rfl rfl (by omega) rfl ?_)|refine Az rfl (by assumption) ?_|(refine gD ?_;first|refine Ah rfl ?_|refine At rfl (by assumption) ?_)|fail)
     refine⟨k+1,⟨by omega,next (by omega)⟩,by omega,?_⟩;rw[hb];refine lg ?_ ?_ rfl (by rfl)
     all_goals repeat'(first|exact tt0|refine⟨⟨_,rfl,?_⟩,?_⟩|exact .c .d|fail)
    ·have d4:decide (q<(t.cells.getD k default).slot)=false:=Aee h4;by_cases h5:(t.cells.getD k default).slot=q
     ·have d5:decide ((t.cells.getD k default).slot=q)=true:=Aed h5;have e1:=Z8 hs hc h5;have e2:N9 t q=true:=(Q0 t q).2 ⟨k,hc,h3,h5⟩;rw[<-e1,e2]
      repeat'(first|refine sC ?_|refine Aj rfl (by exact tt0) ?_|(refine gI ?_;first|refine Aq (gk rfl) rfl rfl rfl rfl rfl (by omega) rfl ?_)|refine Az rfl (by assumption) ?_|(refine gD ?_;first|refine Ah rfl ?_|refine Ag rfl ?_|refine At rfl (by assumption) ?_)|fail)
      exact Cx Ab rfl rfl rfl rfl
     ·have d5:decide ((t.cells.getD k default).slot=q)=false:=Aee h5;rw[AeT (by omega)] at hb
      repeat'(first|refine sC ?_|refine Aj rfl (by first|exact tt0|omega) ?_|(refine gI ?_;first|refine Aq (gk rfl) rfl rfl rfl rfl rfl (by omega) rfl ?_)|refine Az rfl (by assumption) ?_|(refine gD ?_;first|refine Ah rfl ?_|refine Ag rfl ?_|refine At rfl (by assumption) ?_)|fail)
      refine⟨k+1,⟨by omega,next (by omega)⟩,by omega,?_⟩;rw[hb];refine lg ?_ ?_ rfl (by rfl)
      all_goals repeat'(first|exact tt0|refine⟨⟨_,rfl,?_⟩,?_⟩|exact .c .d|fail)
   ·have d3:decide ((t.cells.getD k default).kind≠3)=true:=Aed h3;rw[AeS (by omega)] at hb
    repeat'(first|refine sC ?_|refine Aj rfl (by first|exact tt0|omega) ?_|(refine gI ?_;first|refine Aq (gk rfl) rfl rfl rfl rfl rfl (by omega) rfl ?_)|refine Az rfl (by assumption) ?_|(refine gD ?_;first|refine Ah rfl ?_|refine At rfl (by assumption) ?_)|fail)
    refine⟨k+1,⟨by omega,next (by omega)⟩,by omega,?_⟩;rw[hb];refine lg ?_ ?_ rfl (by rfl)
    all_goals repeat'(first|exact tt0|refine⟨⟨_,rfl,?_⟩,?_⟩|exact .c .d|fail)
  ·have hdd:decide ((k:Int)<(t.cells.length:Int))=false:=Aee (by omega);have e1:S5 t q k=FP t q:=by unfold S5 FP CO;rw[AeK (by omega)]
   have e2:N9 t q=false:=by
    cases h:N9 t q with
    |false=>rfl
    |true=>
     obtain⟨i,hi,h1,h2⟩:=(Q0 t q).1 h;exact absurd ⟨h1,h2⟩ (hn i (by omega))
   rw[<-e1,e2]
   repeat'(first|refine sB ?_|refine Aj rfl (by exact tt0) ?_|(refine gD ?_;first|refine Ag rfl ?_|refine At rfl (by assumption) ?_)|fail)
   exact Cx Ab rfl rfl rfl rfl
theorem VB (t:Tb) (q:Int):FP t q<=t.cells.length:=by
 have h1:=AeN (fun c:TC=>decide (c.slot<q)) (CO t);have h2:=AeN (fun c:TC=>decide (c.kind=3)) t.cells;unfold FP;unfold CO at h1 ⊢;omega
theorem AaQ {σ:St} {L:List Nat} {nm:Nat} {t:Tb} (hL:nm∈L) (hb:σ (.b nm)=some (.k (.box t.cs))):AR Tryz.prog σ L (.c (.ptr nm 0)) (.ep (fun j=>[D.int .i64 t.node,.int .i64 t.len,tcs t.cells].getD j .Dh) 3):=
 .of0 (.ptr hL hb (fun j hj=>by
  have:j=0\/j=1\/j=2:=by omega
  rcases this with rfl|rfl|rfl<;>rfl))
set_option maxHeartbeats 1000000 in
theorem Tr (t:Tb) (slot turns:Int) (hs:slot<=109951162):FnS Tryz.prog 166 [tbA t,AI slot,AI turns] [] (.tup [AI (Hh t slot turns).1,AB (Hh t slot turns).2]) []:=by
 have hr:=OI t turns;refine fb Tryz.func166 (by kernel_rfl) rfl Tryz.ntmps166 Tryz.results166 rfl rfl rfl rfl fun E hS=>?_
 cases hb:beR t turns with
 |false=>
  rw[hb] at hr;have e:Hh t slot turns=(0,false):=by
   unfold Hh;rw[AeT];unfold beR at hb;by_cases h1:Ci t=0
   ·by_cases h2:1<=turns
    ·by_cases h3:turns<=32
     ·simp[h1,h2,h3] at hb
     ·omega
    ·omega
   ·exact .inl h1
  rw[e]
  repeat'(first|refine sB ?_|refine Aj rfl (by exact tt0) ?_|(refine gC ?_;first|refine Aa (hr) (gk rfl) rfl rfl rfl (by rfl) rfl (by rfl) rfl ?_)|(refine gD ?_;first|refine Ah rfl ?_)|fail)
  exact Cx Ab rfl rfl rfl rfl
 |true=>
  rw[hb] at hr;unfold beR at hb;simp only[Aen,Aef] at hb;obtain⟨⟨hc,h1⟩,h2⟩:=hb;have hl:=Cm hc;by_cases h0:slot<0
  ·have d0:decide (slot<0)=true:=Aed h0;have e:Hh t slot turns=(0,false):=by unfold Hh;rw[AeT (by omega)]
   rw[e]
   repeat'(first|refine sB ?_|refine Aj rfl (by exact tt0) ?_|(refine gC ?_;first|refine Aa (hr) (gk rfl) rfl rfl rfl (by rfl) rfl (by rfl) rfl ?_)|(refine gD ?_;first|refine Ah rfl ?_|refine At rfl (by assumption) ?_)|fail)
   exact Cx Ab rfl rfl rfl rfl
  ·have d0:decide (slot<0)=false:=Aee h0;have hsh:=MH t hl.1;have hs1:=Nk t (slot % t.len) hc;have hbf:=VB t (slot % t.len);have hcn:(CO t).length<=512:=by
    have:=AeN (fun c:TC=>decide (c.kind=3)) t.cells;unfold CO;omega
   cases hh:N9 t (slot % t.len) with
   |false=>
    rw[hh] at hs1;have e:Hh t slot turns=(0,false):=by unfold Hh;rw[AeS (by omega),AeT hh]
    rw[e]
    repeat'(first|refine sB ?_|refine Aj rfl (by first|exact tt0|omega) ?_|(refine gC ?_;first|refine Aa (hr) (gk rfl) rfl rfl rfl (by rfl) rfl (by rfl) rfl ?_|refine B5 (nmL []) [] [] (FnS.toW hsh) (gk rfl) rfl rfl (by(repeat'(first|exact .nil|refine .cons ?_ ?_|refine .r ?_|refine .of0 (.agg ?_)|exact .d))<;>fail) (by(repeat'(exact trivial))<;>fail) rfl rfl rfl (by rfl) rfl (by rfl) rfl rfl rfl (by(simp only[F2,List.map_cons,List.map_nil,Blk.ren,C.ren,Bw,B0,BZ,gW,D8,nmL,Nat.reduceBEq,Bool.or_false,Bool.or_true,Bool.false_or,Bool.true_or,cond_true,cond_false,Nat.reduceMul,Nat.reduceAdd])<;>rfl) (by(simp only[AV.ren,AV.Ik,List.map_cons,List.map_nil,C.ren,gW,D8,nmL,Nat.reduceBEq,Bool.or_false,Bool.or_true,Bool.false_or,Bool.true_or,cond_true,cond_false,Nat.reduceMul,Nat.reduceAdd])<;>rfl) rfl ?_|refine Qv [22001] (hs1) (gk rfl) rfl rfl (by(repeat'(first|exact .nil|refine .cons ?_ ?_|exact .of0 (.c .d)|exact(AaQ (by simp) rfl)))<;>fail) rfl rfl rfl rfl rfl ?_)|(refine gD ?_;first|refine Ah rfl ?_|refine Ag rfl ?_|refine At rfl (by assumption) ?_)|fail)
    exact Cx Ab rfl rfl rfl rfl
   |true=>
    rw[hh] at hs1;have e:Hh t slot turns=((slot/t.len % turns*(CO t).length+FP t (slot % t.len)) % turns,true):=by unfold Hh;rw[AeS (by omega),AeS (by rw[hh];simp)]
    have q1:0<=slot/t.len:=Int.ediv_nonneg (by omega) (by omega);have q2:0<=slot/t.len % turns:=Int.emod_nonneg _ (by omega);have q3:slot/t.len % turns<turns:=Int.emod_lt_of_pos _ (by omega);have q4:0<=slot/t.len % turns*((CO t).length:Int):=Int.mul_nonneg q2 (by omega);have q5:slot/t.len % turns*((CO t).length:Int)<=32*512:=Int.mul_le_mul (by omega) (by omega) (by omega) (by omega);have q6:slot/t.len<=slot:=Int.ediv_le_self _ (by omega);rw[e]
    repeat'(first|refine sB ?_|refine Aj rfl (by first|exact tt0|omega) ?_|(refine gC ?_;first|refine Aa (hr) (gk rfl) rfl rfl rfl (by rfl) rfl (by rfl) rfl ?_|refine B5 (nmL []) [] [] (FnS.toW hsh) (gk rfl) rfl rfl (by(repeat'(first|exact .nil|refine .cons ?_ ?_|refine .r ?_|refine .of0 (.agg ?_)|exact .d))<;>fail) (by(repeat'(exact trivial))<;>fail) rfl rfl rfl (by rfl) rfl (by rfl) rfl rfl rfl (by(simp only[F2,List.map_cons,List.map_nil,Blk.ren,C.ren,Bw,B0,BZ,gW,D8,nmL,Nat.reduceBEq,Bool.or_false,Bool.or_true,Bool.false_or,Bool.true_or,cond_true,cond_false,Nat.reduceMul,Nat.reduceAdd])<;>rfl) (by(simp only[AV.ren,AV.Ik,List.map_cons,List.map_nil,C.ren,gW,D8,nmL,Nat.reduceBEq,Bool.or_false,Bool.or_true,Bool.false_or,Bool.true_or,cond_true,cond_false,Nat.reduceMul,Nat.reduceAdd])<;>rfl) rfl ?_|refine Qv [22001] (hs1) (gk rfl) rfl rfl (by(repeat'(first|exact .nil|refine .cons ?_ ?_|exact .of0 (.c .d)|exact(AaQ (by simp) rfl)))<;>fail) rfl rfl rfl rfl rfl ?_)|(refine gD ?_;first|refine Ag rfl ?_|refine At rfl (by assumption) ?_)|fail)
    exact Cx Ab rfl rfl rfl rfl
set_option maxHeartbeats 1000000 in
theorem Xg (t:Tb) (slot turns:Int) (hs:slot<=109951162):FnS Tryz.prog 123 [tbA t,AI slot,AI turns] [] (AB (Te t slot turns)) []:=by
 have ha:=MI t slot;have ht:=Tr t slot turns hs;refine fb Tryz.func123 (by kernel_rfl) rfl Tryz.ntmps123 Tryz.results123 rfl rfl rfl rfl fun E hS=>?_
 cases h1:(atM t slot).2 with
 |false=>
  have e:Te t slot turns=false:=by unfold Te;rw[h1];rfl
  rw[h1] at ha;rw[e]
  repeat'(first|refine sB ?_|refine Aj rfl (by exact tt0) ?_|(refine gC ?_;first|refine Aa (ha) (gk rfl) rfl rfl rfl (by rfl) rfl (by rfl) rfl ?_|refine Aa (ht) (gk rfl) rfl rfl rfl (by rfl) rfl (by rfl) rfl ?_)|fail)
  exact As Ab rfl rfl
 |true=>
  rw[h1] at ha;cases h2:(Hh t slot turns).2 with
  |false=>
   have e:Te t slot turns=false:=by unfold Te;rw[h1,h2];rfl
   rw[h2] at ht;rw[e]
   repeat'(first|refine sB ?_|refine Aj rfl (by exact tt0) ?_|(refine gC ?_;first|refine Aa (ha) (gk rfl) rfl rfl rfl (by rfl) rfl (by rfl) rfl ?_|refine Aa (ht) (gk rfl) rfl rfl rfl (by rfl) rfl (by rfl) rfl ?_)|fail)
   exact As Ab rfl rfl
  |true=>
   rw[h2] at ht;by_cases h3:(atM t slot).1.kind=3
   ·have d3:decide ((atM t slot).1.kind=3)=true:=Aed h3;have e:Te t slot turns=decide ((Hh t slot turns).1=t.node % turns):=by unfold Te;rw[h1,h2,d3];rfl
    have hr:Ci t=0/\1<=turns:=by
     unfold Hh at h2
     split at h2
     ·cases h2
     ·omega
    have hn:=(Cm hr.1).2.2.2;have hn:0<=t.node/\t.node<32:=AeC hn;rw[e]
    repeat'(first|refine sB ?_|refine Aj rfl (by first|exact tt0|omega) ?_|(refine gC ?_;first|refine Aa (ha) (gk rfl) rfl rfl rfl (by rfl) rfl (by rfl) rfl ?_|refine Aa (ht) (gk rfl) rfl rfl rfl (by rfl) rfl (by rfl) rfl ?_)|refine Az rfl (by assumption) ?_|fail)
    exact As Ab rfl rfl
   ·have d3:decide ((atM t slot).1.kind=3)=false:=Aee h3;have e:Te t slot turns=false:=by unfold Te;rw[h1,h2,d3];rfl
    rw[e]
    repeat'(first|refine sB ?_|refine Aj rfl (by exact tt0) ?_|(refine gC ?_;first|refine Aa (ha) (gk rfl) rfl rfl rfl (by rfl) rfl (by rfl) rfl ?_|refine Aa (ht) (gk rfl) rfl rfl rfl (by rfl) rfl (by rfl) rfl ?_)|refine Az rfl (by assumption) ?_|fail)
    exact As Ab rfl rfl
end Go.Proofs.M
end
section
namespace Go.Proofs
open Go Go.Sx Go.Proofs.T Go.Proofs.Q
set_option maxRecDepth 4000
attribute [local irreducible] VR VC thenQ blockQ retL
theorem X6 {src slot rank epoch:Nat} {d:ByteArray} (h0:src<=31) (h1:slot<=109951162) (h2:rank<=65535) (h3:epoch<=65535):H5 (bcn src slot rank epoch d)=0:=by
 rw[IH];refine⟨⟨by show(0:Int)<=(src:Int)/\(src:Int)<=31;omega,by show(0:Int)<=0/\(0:Int)<=255;omega,by show(0:Int)<=0/\(0:Int)<=255;omega⟩,.inr (.inr (.inl ⟨rfl,rfl,?_,?_,?_,rfl,rfl,rfl⟩))⟩
 ·show(0:Int)<=(slot:Int)/\(slot:Int)<=109951162;omega
 ·show(0:Int)<=(rank:Int)/\(rank:Int)<=65535;omega
 ·show(0:Int)<=(epoch:Int)/\(epoch:Int)<=65535;omega
end Go.Proofs
end
section
namespace Go.Proofs.R
open Go Go.Sx Go.Proofs.P
set_option maxRecDepth 4000
attribute [local irreducible] VR VC thenQ blockQ retL
set_option maxHeartbeats 2000000 in
theorem Ul (nd ep rk slot:Nat) (p h le:Int) (h0:nd<=31) (h1:slot<=109951162) (h2:rk<=65534) (h3:ep<=65535):
  FnS Tryz.prog 125 [rkA ⟨nd,ep,p,h,rk,le⟩,AI 0,AI 0,AI slot,Acq false] [] (.tup [frA (bcn nd slot rk ep (Zr false)),AI 0]) []:=by
 have hc:=Ku (bcn nd slot rk ep (Zr false));rw[X6 h0 h1 (by omega) h3] at hc;have d1:decide ((65535:Int)<=(rk:Int))=false:=Aee (by omega);refine fb Tryz.func125 (by kernel_rfl) rfl Tryz.ntmps125 Tryz.results125 rfl rfl rfl rfl fun E hS=>?_
 repeat'(first|refine sB ?_|refine Aj rfl (by exact tt0) ?_|(refine gC ?_;first|refine Aa (T9 false) (gk rfl) rfl rfl rfl (by rfl) rfl (by exact Aw) rfl ?_|refine Aa (hc) (gk rfl) rfl rfl rfl (by rfl) rfl (by exact Aw) rfl ?_)|(refine gD ?_;first|refine Ag rfl ?_|refine At rfl (by assumption) ?_)|fail)
 exact D5 Ab rfl rfl rfl rfl rfl rfl rfl
end Go.Proofs.R
end
section
namespace Go.Proofs.R
open Go Go.Sx Go.Proofs.P
def Acf (r:Rk) (e k:Int):Prop:=e<r.epoch\/(e=r.epoch/\r.least<=k)
def K0 (r s:Rk):Prop:=r.epoch<s.epoch\/(r.epoch=s.epoch/\s.least<=r.least)
theorem Acf.mono {r s:Rk} {e k:Int} (h:Acf r e k) (m:K0 r s):Acf s e k:=by
 unfold Acf K0 at *;omega
theorem K0.refl (r:Rk):K0 r r:=.inr ⟨rfl,Int.le_refl _⟩
theorem K0.trans {r s t:Rk} (h:K0 r s) (m:K0 s t):K0 r t:=by
 unfold K0 at *;omega
theorem Ll (r:Rk) (e:Int):K0 r (BN r e):=by
 unfold BN K0
 split
 ·left;assumption
 ·exact .inr ⟨rfl,Int.le_refl _⟩
theorem NP (r:Rk):K0 r (Hp r):=by
 unfold Hp
 split
 ·exact .inr ⟨rfl,Int.le_refl _⟩
 ·exact K0.refl r
theorem IU (r:Rk) (fr e k c:Int):K0 r (Cl r fr e k c):=Ll r e
def Aah (l:List Nb) (r s:Rk):Prop:=s.parent=-1\/(∃b,b<l.length/\(l.getD b default).node=s.parent/\(l.getD b default).epoch=s.epoch/\(l.getD b default).rank=s.heard)\/(s.parent=r.parent/\s.epoch=r.epoch/\s.heard=r.heard)
theorem Q5 {l:List Nb} {s:Rk} {b:Nat} (r:Rk) (hb:b<l.length) (h:MU l s b):Aah l r (Hz l s b):=
 .inr (.inl ⟨b,hb,rfl,(GV (by have:=h.Xa;omega)).symm,rfl⟩)
theorem RO {l:List Nb} (hl:checkNb l=0) {r:Rk} (hr:rkErr r=0) (hn:r.node≠0):K0 r (CF l r)/\Aah l r (CF l r):=by
 by_cases hp:r.parent<0
 ·rw[JK hp];exact⟨K0.refl r,.inr (.inr ⟨rfl,rfl,rfl⟩)⟩
 by_cases hf:BS l r.parent=true
 ·obtain⟨hb,he⟩:=CG.1 hf;obtain⟨ha,_⟩:=C9 hl hb;rw[LX hl hb he.symm];obtain⟨_,h⟩:=IP hr (by omega) ha (Fq hl hb);rcases h with⟨_,h⟩|⟨_,hc,h⟩|⟨_,h⟩
  ·rw[h];exact⟨K0.refl r,.inr (.inr ⟨rfl,rfl,rfl⟩)⟩
  ·rw[h];have hc':MU l r (C5 l r.parent):=by unfold MU;rw[he];exact hc
   have e:Cl r r.parent (l.getD (C5 l r.parent) default).epoch (l.getD (C5 l r.parent) default).rank (I8 (l.getD (C5 l r.parent) default).att (l.getD (C5 l r.parent) default).ack)=Hz l r (C5 l r.parent):=by
    unfold Hz;rw[he]
   rw[e];exact⟨IU _ _ _ _ _,Q5 r hb hc'⟩
  ·rw[h];rw[E2] at ha;have hb':=QL hr ha.1 (show r.parent≠-1 by omega);exact⟨(Ll _ _).trans (NP _),.inl (FI hb')⟩
 ·have e:CF l r=Hp r:=by unfold CF;rw[AeT (by omega),AeS hf]
  rw[e];exact⟨NP r,.inl (FI hr)⟩
theorem Pj {l:List Nb} (hl:checkNb l=0) {r:Rk} (hr:rkErr r=0) {m:Int} (hm:0<=m/\m<=65535):
  (select' l r m).2.2=0/\rkErr (select' l r m).1=0/\(select' l r m).1.node=r.node/\K0 r (select' l r m).1/\Aah l r (select' l r m).1:=by
 have hm':inR m 0 65535=true:=by rw[C0];exact hm
 by_cases hn:r.node=0
 ·have e:select' l r m=(r,false,0):=by
   unfold select';rw[AeS (by simp[hl,hr]),AeS (by simp[hm']),AeT hn]
  rw[e];exact⟨rfl,hr,rfl,K0.refl r,.inr (.inr ⟨rfl,rfl,rfl⟩)⟩
 ·have e:select' l r m=(Is l (CF l r) m,decide ((Is l (CF l r) m).parent≠r.parent),0):=by
   unfold select';rw[AeS (by simp[hl,hr]),AeS (by simp[hm']),AeS hn]
  have hA:=Hi hl hr hn;have hF:=RO hl hr hn;have hs:=TB hl hr hn hm;rw[e];refine⟨rfl,hs.right,hs.node,?_⟩;dsimp only;by_cases ht:LW l (CF l r) m=true
  ·obtain⟨b,_,hbl,_,hc,he,_⟩:=Ir hl ht;rw[he];exact⟨hF.1.trans (IU _ _ _ _ _),Q5 r hbl hc⟩
  ·have e2:Is l (CF l r) m=CF l r:=by unfold Is;rw[AeS ht]
   rw[e2];exact hF
end Go.Proofs.R
end
section
namespace Go.Proofs.P
open Go Go.Sx
set_option maxRecDepth 4000
attribute [local irreducible] VR VC thenQ blockQ retL
theorem MB {l:List Nb} (hlen:l.length<=32) (hr:∀k,k<l.length->DF (l.getD k default).node (l.getD k default).epoch (l.getD k default).rank (l.getD k default).slot=true/\(0<=(l.getD k default).att/\(l.getD k default).att<=255)/\0<=(l.getD k default).ack/\(l.getD k default).ack<=(l.getD k default).att)
  (hm:∀k,0<k->k<l.length->(l.getD (k-1) default).node<(l.getD k default).node):checkNb l=0:=by
 unfold checkNb;rw[AeS (by omega)];refine CD fun k hk=>?_
 obtain⟨h1,h2,h3⟩:=hr k hk;unfold Ho;dsimp only;have ha:inR (l.getD k default).att 0 255=true:=by rw[C0];exact h2
 have hb:inR (l.getD k default).ack 0 (l.getD k default).att=true:=by rw[C0];exact h3
 rw[h1,ha,hb];simp only[Bool.and_self,if_true];rw[AeS];rintro⟨h0,hle⟩;have:=hm k h0 hk;omega
theorem Mo {l:List Nb} {i j:Nat} {y:Nb} (hi:i<=l.length):(Bp l i y).getD j default=if j<i then l.getD j default else if j=i then y else l.getD (j-1) default:=by
 unfold Bp;simp only[Aec];have hl:(l.take i).length=i:=by rw[Aem];omega
 split
 ·rw[List.getElem?_append_left (by omega),List.getElem?_take_of_lt (by assumption)]
 ·rw[List.getElem?_append_right (by omega),hl]
  split
  ·rename_i h;subst h;simp
  ·obtain⟨m,hm⟩:∃m,j-i=m+1:=⟨j-i-1,by omega⟩;rw[hm,List.getElem?_cons_succ,List.getElem?_drop]
   congr 2
   omega
theorem PN {l:List Nb} {i:Nat} {y:Nb} (hi:i<=l.length):(Bp l i y).length=l.length+1:=by
 simp only[Bp,Aeh,Aem,List.length_cons,Aep];omega
theorem Zx {l:List Nb} (h:checkNb l=0):∀k,k<l.length->(k:Int)<=(l.getD k default).node:=by
 intro k
 induction k with
 |zero=>intro hk;have:=(C9 h hk).2.1;simpa using this
 |succ k ih=>
  intro hk;have h1:=ih (by omega);have h2:=Se h (i:=k+1) (by omega) hk;simp only[Nat.add_sub_cancel] at h2
  push_cast
  omega
theorem WL {l:List Nb} (h:checkNb l=0) {t:Int} (ht:0<=t/\t<=31) (hf:BS l t=false):l.length<=31:=by
 obtain⟨b1,b2,b3⟩:=MC h t;have hti:(C5 l t:Int)<=t:=by
  rcases Nat.eq_zero_or_pos (C5 l t) with h0|h0
  ·rw[h0];simpa using ht.1
  ·have h1:=b2 (C5 l t-1) (by omega);have h2:=Zx h (C5 l t-1) (by omega);omega
 by_cases hlt:C5 l t<l.length
 ·have hne:(l.getD (C5 l t) default).node≠t:=fun e=>by
   have:=CG.2 ⟨hlt,e⟩;rw[hf] at this;cases this
  have key:∀j,C5 l t+j<l.length->t+1+j<=(l.getD (C5 l t+j) default).node:=by
   intro j
   induction j with
   |zero=>intro hj;have:=b3 _ (AeU _) hlt;simp only[Nat.add_zero] at *;omega
   |succ j ih=>
    intro hj;have h1:=ih (by omega);have h2:=Se h (i:=C5 l t+(j+1)) (by omega) hj;rw[show C5 l t+(j+1)-1=C5 l t+j by omega] at h2
    push_cast
    omega
  have h1:=key (l.length-1-C5 l t) (by omega);have h2:=(C9 h (k:=C5 l t+(l.length-1-C5 l t)) (by omega)).2.2;omega
 ·omega
theorem SC {l:List Nb} (h:checkNb l=0) {t e k s:Int} (hr:DF t e k s=true):checkNb (KY l t e k s)=0:=by
 obtain⟨hlen,hall⟩:=BK h;obtain⟨b1,b2,b3⟩:=MC h t;unfold KY;cases hf:BS l t with
 |true=>
  obtain⟨hi,hn⟩:=CG.1 hf;simp only[if_true];have hnode:∀j,((l.set (C5 l t) (VK (l.getD (C5 l t) default) e k s)).getD j default).node=(l.getD j default).node:=fun j=>by
   rw[Gy hi];split
   ·rename_i e;rw[e];rfl
   ·rfl
  refine MB (by rw[Aes];omega) (fun j hj=>?_) (fun j h0 hj=>?_)
  ·rw[Aes] at hj;have hx:=Cu (hall _ hi);rw[Gy hi];split
   ·refine⟨?_,hx.2⟩;show DF (l.getD (C5 l t) default).node e k s=true;rw[hn];exact hr
   ·exact Cu (hall _ hj)
  ·rw[Aes] at hj;rw[hnode,hnode];exact Se h h0 hj
 |false=>
  simp only[Bool.false_eq_true,if_false];have ht:0<=t/\t<=31:=by simp only[DF,Aen,C0] at hr;omega
  have hroom:=WL h ht hf;refine MB (by rw[PN b1];omega) (fun j hj=>?_) (fun j h0 hj=>?_)
  ·rw[PN b1] at hj;rw[Mo b1]
   split
   ·exact Cu (hall _ (by omega))
   ·split
    ·exact⟨hr,by simp[VK,PE],by simp[VK,PE]⟩
    ·exact Cu (hall _ (by omega))
  ·rw[PN b1] at hj;rw[Mo b1,Mo b1];have hne:C5 l t<l.length->(l.getD (C5 l t) default).node≠t:=fun hlt e=>by
    have:=CG.2 ⟨hlt,e⟩;rw[hf] at this;cases this
   by_cases h1:j<C5 l t
   ·rw[AeT (by omega),AeT h1];exact Se h h0 (by omega)
   ·by_cases h2:j=C5 l t
    ·rw[AeT (by omega),AeS h1,AeT h2];exact b2 _ (by omega)
    ·rw[AeS (by omega),AeS h1,AeS h2];by_cases h3:j-1=C5 l t
     ·rw[AeT h3];have h4:=b3 (j-1) (by omega) (by omega);have h5:=hne (by omega);rw[<-h3] at h5;show t<_;omega
     ·rw[AeS h3];exact Se h (by omega) (by omega)
end Go.Proofs.P
end
section
namespace Go.Proofs.R
open Go Go.Sx Go.Proofs.P
structure Wk where
 r:Rk
 l:List Nb
 deriving Inhabited
structure Sd where
 nd:Nat
 slot:Nat
 rk:Nat
 ep:Nat
 deriving Inhabited
structure Dd where
 kind:Int
 node:Int
 Yf:Int
 slot:Int
 deriving Inhabited
def Yb (L:List Wk) (p e k:Int):Prop:=∃j:Nat,j<L.length/\p=j/\Acf (L.getD j default).r e k
structure NL (L:List Wk) (said:List Sd) (slot:Int):Prop where
 node:∀i,i<L.length->(L.getD i default).r.node=i
 rk:∀i,i<L.length->rkErr (L.getD i default).r=0
 nb:∀i,i<L.length->checkNb (L.getD i default).l=0
 CN:∀i,i<L.length->∀x∈(L.getD i default).l,x.slot<=slot
 ad:∀i,i<L.length->∀x∈(L.getD i default).l,Yb L x.node x.epoch x.rank
 sd:∀s∈said,Yb L s.nd s.ep s.rk/\(1<=s.ep/\s.ep<=65535)/\s.rk<=65534/\(s.slot:Int)<=slot
 par:∀i,i<L.length->(L.getD i default).r.parent≠-1->Yb L (L.getD i default).r.parent (L.getD i default).r.epoch (L.getD i default).r.heard
theorem XI {L:List Wk} {i j:Nat} {w:Wk} (hi:i<L.length):(L.set i w).getD j default=if j=i then w else L.getD j default:=by
 by_cases h:j=i
 ·subst h;simp[Aec,hi]
 ·simp[Aec,h,AeA (Ne.symm h)]
theorem Yb.set {L:List Wk} {i:Nat} {w:Wk} (hi:i<L.length) (hm:K0 (L.getD i default).r w.r) {p e k:Int} (h:Yb L p e k):Yb (L.set i w) p e k:=by
 obtain⟨j,hj,hp,ha⟩:=h;refine⟨j,by rw[Aes];exact hj,hp,?_⟩;rw[XI hi]
 split
 ·rename_i e;subst e;exact ha.mono hm
 ·exact ha
structure Ad8 (L:List Wk) (slot:Int) (i:Nat) (w:Wk):Prop where
 node:w.r.node=i
 rk:rkErr w.r=0
 nb:checkNb w.l=0
 CN:∀x∈w.l,x.slot<=slot
 ad:∀x∈w.l,Yb L x.node x.epoch x.rank
 mono:K0 (L.getD i default).r w.r
 par:w.r.parent≠-1->Yb L w.r.parent w.r.epoch w.r.heard
theorem NL.set {L:List Wk} {said:List Sd} {slot slot2:Int} (h:NL L said slot) (hs:slot<=slot2) {i:Nat} (hi:i<L.length) {w:Wk} (g:Ad8 L slot2 i w):NL (L.set i w) said slot2:=by
 refine⟨fun j hj=>?_,fun j hj=>?_,fun j hj=>?_,fun j hj=>?_,fun j hj=>?_,fun s hs2=>?_,fun j hj=>?_⟩
 all_goals try rw[Aes] at hj
 all_goals try rw[XI hi]
 ·split
  ·rename_i e;subst e;exact g.node
  ·exact h.node j hj
 ·split
  ·exact g.rk
  ·exact h.rk j hj
 ·split
  ·exact g.nb
  ·exact h.nb j hj
 ·split
  ·exact g.CN
  ·exact fun x hx=>Int.le_trans (h.CN j hj x hx) hs
 ·split
  ·exact fun x hx=>(g.ad x hx).set hi g.mono
  ·exact fun x hx=>(h.ad j hj x hx).set hi g.mono
 ·obtain⟨h1,h2,h3,h4⟩:=h.sd s hs2;exact⟨h1.set hi g.mono,h2,h3,Int.le_trans h4 hs⟩
 ·split
  ·exact fun hp=>(g.par hp).set hi g.mono
  ·exact fun hp=>(h.par j hj hp).set hi g.mono
theorem Cv {l:List Nb} {i:Nat} (h:i<l.length):l.getD i default∈l:=by
 rw[Aec,Ael h];exact AeI h
theorem Ui {l:List Nb} {t e k s:Int} {x:Nb} (h:x∈KY l t e k s):x∈l\/(x.node=t/\x.epoch=e/\x.rank=k/\x.slot=s):=by
 unfold KY at h;cases hf:BS l t with
 |true=>
  rw[hf] at h;simp only[if_true] at h;rcases List.mem_or_eq_of_mem_set h with h|h
  ·exact .inl h
  ·subst h;exact .inr ⟨(CG.1 hf).2,rfl,rfl,rfl⟩
 |false=>
  rw[hf] at h;simp only[Bool.false_eq_true,if_false,P.Bp] at h;rcases List.mem_append.1 h with h|h
  ·exact .inl (Ae0 h)
  ·rcases Aex.1 h with h|h
   ·subst h;exact .inr ⟨rfl,rfl,rfl,rfl⟩
   ·exact .inl (List.mem_of_mem_drop h)
theorem Su {l:List Nb} (h:checkNb l=0) (slot age:Int):checkNb (kept l slot age)=0:=by
 obtain⟨hlen,hall⟩:=BK h;have hle:(kept l slot age).length<=l.length:=AeN ..;have hmem:∀k,k<(kept l slot age).length->(kept l slot age).getD k default∈l:=fun k hk=>(AeM.1 (Cv hk)).1
 have hpw:l.Pairwise fun a b=>a.node<b.node:=by
  rw[List.pairwise_iff_getElem];intro a b ha hb hab;have:=Md h hab hb;simpa [Aec,ha,hb] using this
 have hpk:(kept l slot age).Pairwise fun a b=>a.node<b.node:=hpw.filter _
 refine MB (by omega) (fun k hk=>?_) (fun k h0 hk=>?_)
 ·obtain⟨j,hj,e⟩:=AeH.1 (hmem k hk);have:=Cu (hall j hj);rw[show l.getD j default=(kept l slot age).getD k default by rw[Aec,Ael hj];exact e] at this;exact this
 ·rw[List.pairwise_iff_getElem] at hpk;have:=hpk (k-1) k (by omega) hk (by omega);simpa [Aec,hk,show k-1<(kept l slot age).length by omega] using this
theorem VH {r:Rk} (h:rkErr r=0) (hk:r.rank≠65535):(advM r).2.2.2=0/\(advM r).1={r with least:=min r.least r.rank}/\(1<=r.epoch/\r.epoch<=65535)/\0<=r.rank/\r.rank<=65534/\rkErr (advM r).1=0:=by
 obtain⟨h1,h2,h3,h4⟩:=Ps h;have e:advM r=({r with least:=min r.least r.rank},r.epoch,r.rank,0):=by
  unfold advM;rw[AeS (by simp[h]),AeS hk]
 rw[e];simp only[C0] at h2;simp only[FU,Bool.or_eq_true,Aen,Aef,C0] at h3;by_cases h0:r.node=0
 ·have h4':=h4;unfold EX at h4;rw[AeT h0] at h4;simp only[Aen,Aef,Bool.or_eq_true] at h4;refine⟨rfl,rfl,by omega,by omega,by omega,TM h1 (by rw[C0];exact h2) ?_ ?_⟩
  ·simp only[FU,Bool.or_eq_true,Aen,Aef,C0]
   right;omega
  ·unfold EX;rw[AeT h0];simp only[Aen,Aef,Bool.or_eq_true];omega
 ·unfold EX at h4;rw[AeS h0] at h4;by_cases hp:r.parent=-1
  ·rw[AeT hp] at h4;simp only[Aen,Aef] at h4;exact absurd h4.1.2 hk
  ·rw[AeS hp] at h4;simp only[Aen,Aef,ne_eq] at h4;refine⟨rfl,rfl,by omega,by omega,by omega,TM h1 (by rw[C0];exact h2) ?_ ?_⟩
   ·simp only[FU,Bool.or_eq_true,Aen,Aef,C0]
    left;omega
   ·unfold EX;rw[AeS h0,AeS hp];simp only[Aen,Aef,ne_eq];refine⟨⟨⟨⟨⟨⟨h4.1.1.1.1.1.1,h4.1.1.1.1.1.2⟩,?_⟩,?_⟩,?_⟩,?_⟩,?_⟩<;>omega
end Go.Proofs.R
end
section
namespace Go.Proofs.M
open Go Go.Sx Go.Proofs Go.Proofs.T Go.Proofs.Q
open Go.Proofs.P (Nb nbs Rk rkA rkErr checkNb hearM countM forgetM select')
open Go.Proofs.R (startM advM)
set_option maxRecDepth 4000
attribute [local irreducible] VR VC thenQ blockQ retL
theorem WN (r:Rk) (slot:Int) (h:rkErr r=0) (hk:r.rank≠65535) (hs:0<=slot/\slot<=109951162):FnS Tryz.prog 125 [rkA r,AI 0,AI 0,AI slot,Acq false] [] (.tup [frA (bcF r slot),AI 0]) []:=by
 obtain⟨_,_,a3,a4,a5,_⟩:=R.VH h hk;obtain⟨n1,_,_⟩:=P.Wr h;have hm:=R.Ul r.node.toNat r.epoch.toNat r.rank.toNat slot.toNat r.parent r.heard r.least (by omega) (by omega) (by omega) (by omega);have e1:((r.node.toNat:Nat):Int)=r.node:=by omega
 have e2:((r.epoch.toNat:Nat):Int)=r.epoch:=by omega
 have e3:((r.rank.toNat:Nat):Int)=r.rank:=by omega
 have e4:((slot.toNat:Nat):Int)=slot:=by omega
 have e5:bcn r.node.toNat slot.toNat r.rank.toNat r.epoch.toNat (Zr false)=bcF r slot:=by
  unfold bcn bcF;rw[e1,e2,e3,e4]
 rw[e1,e2,e3,e4,e5] at hm;exact hm
theorem VI {r:Rk} (h:(advM r).2.2.2=0):rkErr r=0/\r.rank≠65535:=by
 unfold advM at h
 split at h
 ·cases h
 ·rename_i h1
  split at h
  ·cases h
  ·rename_i h2;exact⟨by simpa using h1,h2⟩
set_option maxHeartbeats 4000000 in
theorem T4 (slot turns:Int) (nv:D) (loads:List Ld) (sil:List Si) (arr:List Ar) (w:Wk) (hs:0<=slot/\slot<=109951162):PhS 89 slot turns nv loads sil arr w (X1 slot turns arr w).2:=by
 have hd:=Xg w.nd.st.tb slot turns hs.2;have ha:=R.VJ w.nd.rk;have hat:=MI w.nd.st.tb slot;have hac:=XC w.nd.st slot;intro r;simp only[Cd,List.map_cons,List.map_nil,List.cons_append,List.nil_append,Nat.reduceAdd];refine FnS.Bu (enters_of Tryz.func89 (by kernel_rfl) rfl) Tryz.func89 rfl Tryz.ntmps89 Tryz.results89 rfl (by first|rfl|(simp only[AZ,wfL,AH,wfs,Ae,Ad];rfl)) rfl fun E=>?_
 refine AK ?_;show VC E _ (retL E (Hm Tryz.prog _ _ [(9100,.pin 100 (r 100)),(9101,.pin 101 (r 101)),(9102,.pin 102 (r 102)),(100,.box [.d (.int .i64 slot),.d (.int .i64 turns),.d nv,.d (lds loads),.d (sis sil),.row 102 arr.length]),(101,.box (Wk.cs (X1 slot turns arr w).2)),(102,.row 62 3 (rowOf Ar.enc arr))])) _;have hneg:¬(Te w.nd.st.tb slot turns=true/\(advM w.nd.rk).2.2.2=0)->(X1 slot turns arr w).2=⟨w.nd,w.node,(Ru w.nd.st slot).1,w.bc,w.rs,w.up⟩:=fun h=>by
  unfold X1 Fb;rw[AeS h];dsimp only;rw[Bool.or_false]
 cases h1:Te w.nd.st.tb slot turns with
 |false=>
  rw[h1] at hd;rw[hneg (fun h=>by rw[h1] at h;cases h.1)]
  repeat'(first|refine sB ?_|refine Aj rfl (by exact tt0) ?_|(refine gC ?_;first|refine Aa (hd) (gk rfl) rfl rfl rfl (by rfl) rfl (by rfl) rfl ?_|refine Aa (hac) (gk rfl) rfl rfl rfl (by rfl) rfl (by rfl) rfl ?_)|(refine gN ?_;first|refine Ak (gk rfl) rfl rfl ?_)|refine Ap (by kernel_rfl) ?_|(refine gD ?_;first|refine Ag rfl ?_)|fail)
  refine An (Am (l:=[]) (b:=[(9100,.pin 100 (r 100)),(9101,.pin 101 (r 101)),(9102,.pin 102 (r 102)),(100,.box [.d (.int .i64 slot),.d (.int .i64 turns),.d nv,.d (lds loads),.d (sis sil),.row 102 arr.length]),(101,.box (Wk.cs ⟨w.nd,w.node,(Ru w.nd.st slot).1,w.bc,w.rs,w.up⟩)),(102,.row 62 3 (rowOf Ar.enc arr))]) (fun n=>n) ?_ ?_ rfl (by(simp only[wfL,wfs,Ae,Ad];rfl))) (Ds BO .nil rfl (by repeat'(first|exact tt0|refine⟨rfl,?_⟩)))
  all_goals repeat'(first|exact tt0|refine⟨⟨_,rfl,?_⟩,?_⟩|exact .Bh rfl rfl|exact .pin rfl|exact .Bc rfl Ai|refine .box ?_|exact .nil|refine .cons ?_ ?_|exact .d|exact .row rfl rfl|fail)
 |true=>
  rw[h1] at hd;by_cases h2:(advM w.nd.rk).2.2.2=0
  ·have d2:decide ((advM w.nd.rk).2.2.2=0)=true:=Aed h2;obtain⟨g1,g2⟩:=VI h2;have hmk:=WN w.nd.rk slot g1 g2 hs;have hpos:(X1 slot turns arr w).2=⟨⟨w.nd.st,(advM w.nd.rk).1,w.nd.nb,w.nd.next⟩,w.node,Adg 1 (atM w.nd.st.tb slot).1.offset (bcF w.nd.rk slot),true,w.rs,w.up⟩:=by
    unfold X1 Fb;rw[AeT ⟨h1,h2⟩];dsimp only;rw[Bool.or_true]
   rw[hpos]
   repeat'(first|refine sB ?_|refine Aj rfl (by exact tt0) ?_|(refine gC ?_;first|refine Aa (hd) (gk rfl) rfl rfl rfl (by rfl) rfl (by rfl) rfl ?_|refine Aa (ha) (gk rfl) rfl rfl rfl (by rfl) rfl (by rfl) rfl ?_|refine Aa (hmk) (gk rfl) rfl rfl rfl (by rfl) rfl (by rfl) rfl ?_|refine Aa (hat) (gk rfl) rfl rfl rfl (by rfl) rfl (by rfl) rfl ?_)|(refine gN ?_;first|refine Ak (gk rfl) rfl rfl ?_)|refine Ap (by kernel_rfl) ?_|(refine gD ?_;first|refine Ah rfl ?_|refine At rfl (by assumption) ?_)|fail)
   refine An (Am (l:=[]) (b:=[(9100,.pin 100 (r 100)),(9101,.pin 101 (r 101)),(9102,.pin 102 (r 102)),(100,.box [.d (.int .i64 slot),.d (.int .i64 turns),.d nv,.d (lds loads),.d (sis sil),.row 102 arr.length]),(101,.box (Wk.cs ⟨⟨w.nd.st,(advM w.nd.rk).1,w.nd.nb,w.nd.next⟩,w.node,Adg 1 (atM w.nd.st.tb slot).1.offset (bcF w.nd.rk slot),true,w.rs,w.up⟩)),(102,.row 62 3 (rowOf Ar.enc arr))]) (fun n=>n) ?_ ?_ rfl (by(simp only[wfL,wfs,Ae,Ad];rfl))) (Ds Ab .nil rfl (by repeat'(first|exact tt0|refine⟨rfl,?_⟩)))
   all_goals repeat'(first|exact tt0|refine⟨⟨_,rfl,?_⟩,?_⟩|exact .Bh rfl rfl|exact .pin rfl|exact .Bc rfl Ai|refine .box ?_|exact .nil|refine .cons ?_ ?_|exact .d|exact .row rfl rfl|fail)
  ·have d2:decide ((advM w.nd.rk).2.2.2=0)=false:=Aee h2;rw[hneg (fun h=>h2 h.2)]
   repeat'(first|refine sB ?_|refine Aj rfl (by exact tt0) ?_|(refine gC ?_;first|refine Aa (hd) (gk rfl) rfl rfl rfl (by rfl) rfl (by rfl) rfl ?_|refine Aa (ha) (gk rfl) rfl rfl rfl (by rfl) rfl (by rfl) rfl ?_|refine Aa (hac) (gk rfl) rfl rfl rfl (by rfl) rfl (by rfl) rfl ?_)|(refine gN ?_;first|refine Ak (gk rfl) rfl rfl ?_)|refine Ap (by kernel_rfl) ?_|(refine gD ?_;first|refine Ah rfl ?_|refine Ag rfl ?_|refine At rfl (by assumption) ?_)|fail)
   refine An (Am (l:=[]) (b:=[(9100,.pin 100 (r 100)),(9101,.pin 101 (r 101)),(9102,.pin 102 (r 102)),(100,.box [.d (.int .i64 slot),.d (.int .i64 turns),.d nv,.d (lds loads),.d (sis sil),.row 102 arr.length]),(101,.box (Wk.cs ⟨w.nd,w.node,(Ru w.nd.st slot).1,w.bc,w.rs,w.up⟩)),(102,.row 62 3 (rowOf Ar.enc arr))]) (fun n=>n) ?_ ?_ rfl (by(simp only[wfL,wfs,Ae,Ad];rfl))) (Ds BO .nil rfl (by repeat'(first|exact tt0|refine⟨rfl,?_⟩)))
   all_goals repeat'(first|exact tt0|refine⟨⟨_,rfl,?_⟩,?_⟩|exact .Bh rfl rfl|exact .pin rfl|exact .Bc rfl Ai|refine .box ?_|exact .nil|refine .cons ?_ ?_|exact .d|exact .row rfl rfl|fail)
end Go.Proofs.M
end
