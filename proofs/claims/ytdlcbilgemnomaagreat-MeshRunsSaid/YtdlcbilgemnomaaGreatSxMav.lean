/-
  Functions' results, and laws on them. No condition.
-/
import Derived.Test.YtdlcbilgemnomaaGreatSxMar
set_option linter.unusedSimpArgs false
set_option linter.unusedVariables false
set_option maxRecDepth 4000
set_option maxHeartbeats 16000000
open Go.Proofs.Tryz
namespace Go.Proofs.M
open Go Go.Sx Go.RowKit Go.Proofs Go.Proofs.T Go.Proofs.Q
attribute [local irreducible] VR VC thenQ blockQ retL VX
abbrev PhG (f:FuncId) (slot turns:Int) (nv:D) (loads:List Ld) (sil:List Si) (arr:List Ar) (w:Wk) (arr':List Ar) (v:Wk):Prop:=
 FnW Tryz.prog f [.c (.ptr 100 0),.c (.ptr 101 0)] [(100,.box [.d (.int .i64 slot),.d (.int .i64 turns),.d nv,.d (lds loads),.d (sis sil),.row 102 arr.length]),(101,.box w.cs),(102,.row 62 3 (rowOf Ar.enc arr))] [100,101] (.tup []) [(100,.box [.d (.int .i64 slot),.d (.int .i64 turns),.d nv,.d (lds loads),.d (sis sil),.row 102 arr'.length]),(101,.box v.cs),(102,.row 62 3 (rowOf Ar.enc arr'))]
section
variable {f:FuncId} {slot turns:Int} {nv:D} {loads:List Ld} {sil:List Si} {arr arr':List Ar} {w v:Wk}
theorem PhS.toG (h:PhS f slot turns nv loads sil arr w v):PhG f slot turns nv loads sil arr w arr v:=by
 intro r;obtain⟨h1,_⟩:=h r;refine⟨h1,fun w0 ρ Im S0 vs hv hm=>?_⟩;obtain⟨_,h2⟩:=h (fun n=>if n=102 then ρ 102 else r n);have hin:∀n b,AN [] (Ch [100,101,102] (fun n=>if n=102 then ρ 102 else r n)++[(100,.box [.d (.int .i64 slot),.d (.int .i64 turns),.d nv,.d (lds loads),.d (sis sil),.row 102 arr.length]),(101,.box w.cs),(102,.row 62 3 (rowOf Ar.enc arr))]) (.b n)=some (.k b)->(n=9102/\b=.pin 102 (ρ 102))\/AN [] (Ch [100,101] r++[(100,.box [.d (.int .i64 slot),.d (.int .i64 turns),.d nv,.d (lds loads),.d (sis sil),.row 102 arr.length]),(101,.box w.cs),(102,.row 62 3 (rowOf Ar.enc arr))]) (.b n)=some (.k b):=by
  intro n b hb;simp only[AN,Akh] at hb;obtain⟨y,hy,e⟩:=hb;injection e with e;subst e
  have hmem:=AP hy;simp only[Ch,Akq,Aku,Akt,Akp,AjO,AjB,or_false,AkR] at hmem;rcases hmem with⟨rfl,rfl⟩|⟨rfl,rfl⟩|⟨rfl,rfl⟩|⟨rfl,rfl⟩|⟨rfl,rfl⟩|⟨rfl,rfl⟩<;>first|exact .inr rfl|exact .inl ⟨rfl,rfl⟩
 have hout:∀n b,AN [] (Ch [100,101] r++[(100,.box [.d (.int .i64 slot),.d (.int .i64 turns),.d nv,.d (lds loads),.d (sis sil),.row 102 arr.length]),(101,.box v.cs),(102,.row 62 3 (rowOf Ar.enc arr))]) (.b n)=some (.k b)->AN [] (Ch [100,101,102] (fun n=>if n=102 then ρ 102 else r n)++[(100,.box [.d (.int .i64 slot),.d (.int .i64 turns),.d nv,.d (lds loads),.d (sis sil),.row 102 arr.length]),(101,.box v.cs),(102,.row 62 3 (rowOf Ar.enc arr))]) (.b n)=some (.k b):=by
  intro n b hb;simp only[AN,Akh] at hb;obtain⟨y,hy,e⟩:=hb;injection e with e;subst e
  have hmem:=AP hy;simp only[Ch,Akq,Aku,Akt,Akp,AjO,AjB,or_false,AkR] at hmem;rcases hmem with⟨rfl,rfl⟩|⟨rfl,rfl⟩|⟨rfl,rfl⟩|⟨rfl,rfl⟩|⟨rfl,rfl⟩<;>rfl
 have hl:∀n b,AN [] (Ch [100,101,102] (fun n=>if n=102 then ρ 102 else r n)++[(100,.box [.d (.int .i64 slot),.d (.int .i64 turns),.d nv,.d (lds loads),.d (sis sil),.row 102 arr.length]),(101,.box w.cs),(102,.row 62 3 (rowOf Ar.enc arr))]) (.b n)=some (.k b)->b.live=true->AN [] (Ch [100,101] r++[(100,.box [.d (.int .i64 slot),.d (.int .i64 turns),.d nv,.d (lds loads),.d (sis sil),.row 102 arr.length]),(101,.box w.cs),(102,.row 62 3 (rowOf Ar.enc arr))]) (.b n)=some (.k b):=fun n b hb hlv=>by
  rcases hin n b hb with⟨_,rfl⟩|h
  ·cases hlv
  ·exact h
 have hm2:F1 (⟨w0,Im,S0⟩:Env Tryz.prog 0) (AN [] (Ch [100,101,102] (fun n=>if n=102 then ρ 102 else r n)++[(100,.box [.d (.int .i64 slot),.d (.int .i64 turns),.d nv,.d (lds loads),.d (sis sil),.row 102 arr.length]),(101,.box w.cs),(102,.row 62 3 (rowOf Ar.enc arr))])) w0 ρ Im:=by
  refine⟨fun n b hb=>?_,fun n b hb hlv=>hm.own n b (hl n b hb hlv) hlv,fun n1 n2 b1 b2 g1 g2 l1 l2=>hm.inj n1 n2 b1 b2 (hl _ _ g1 l1) (hl _ _ g2 l2) l1 l2,fun c hc=>⟨(hm.im c hc).1,(hm.im c hc).2.1,fun n b hb hlv=>(hm.im c hc).2.2 n b (hl _ _ hb hlv) hlv⟩,hm.Bo⟩;rcases hin n b hb with⟨rfl,rfl⟩|h
  ·rfl
  ·exact hm.bk n b h
 refine(h2 w0 ρ Im S0 vs hv hm2).mono ?_;rintro e w' ⟨v0,ρ',Im',he,hm',hr,_⟩;exact⟨v0,ρ',Im',he,⟨fun n b hb=>hm'.bk n b (hout n b hb),fun n b hb=>hm'.own n b (hout n b hb),fun n1 n2 b1 b2 g1 g2=>hm'.inj n1 n2 b1 b2 (hout _ _ g1) (hout _ _ g2),fun c hc=>⟨(hm'.im c hc).1,(hm'.im c hc).2.1,fun n b hb=>(hm'.im c hc).2.2 n b (hout _ _ hb)⟩,hm'.Bo⟩,hr,tt0⟩
end
section
variable {slot turns:Int} {R:Nat->RI} {nn:Nat} {loads:List Ld} {sil:List Si} {arr arr':List Ar} {r0:RI} {l:List (Nat×AV)} {FY:List (Nat×Blk)} {X:List Wk} {i:Nat} {w v:Wk}
def Sz (slot turns:Int) (R:Nat->RI) (nn:Nat) (loads:List Ld) (sil:List Si) (arr:List Ar) (r0:RI) (i:Nat) (w:Wk):List (Nat×Blk):=
 [(9100,.pin 100 r0),(20000+i,.pin (8000+i) (R i)),(100,.box (sbC slot turns R nn loads sil arr.length)),(8000+i,.box w.cs),(102,.row 62 3 (rowOf Ar.enc arr))]
theorem UY (hi:i<100):Aay (swN i) (Ch [100,101] (fun n=>if n=100 then r0 else R i)++[(100,.box (sbC slot turns R nn loads sil arr.length)),(101,.box w.cs),(102,.row 62 3 (rowOf Ar.enc arr))])=Sz slot turns R nn loads sil arr r0 i w:=by
 have e100:swN i 100=100:=UH (by omega) (by omega) (by omega) (by omega);have e102:swN i 102=102:=UH (by omega) (by omega) (by omega) (by omega);have e9100:swN i 9100=9100:=UH (by omega) (by omega) (by omega) (by omega);have e1:swN i 101=8000+i:=X0;have e2:swN i 9101=20000+i:=AaW hi;have c1:w.cs.map (C.ren (swN i))=w.cs:=Cs.H8 (Jt w);have c2:(rowOf Ar.enc arr).map (fun cs=>cs.map (C.ren (swN i)))=rowOf Ar.enc arr:=Css.H8 fun cs hcs c hc=>by
  have h:=Bi (enc:=Ar.enc) (l:=arr) (T:=0) (sz:=0);cases hn:c.names with
  |nil=>rfl
  |cons x xs=>
   exfalso;have:x∈(Blk.row 0 0 (rowOf Ar.enc arr)).names:=List.mem_flatMap.2 ⟨cs,hcs,List.mem_flatMap.2 ⟨c,hc,by rw[hn];simp⟩⟩;rw[h] at this;cases this
 show[(swN i 9100,Blk.pin (swN i 100) r0),(swN i 9101,Blk.pin (swN i 101) (R i)),(swN i 100,Blk.box [.d (.int .i64 slot),.d (.int .i64 turns),.d (Ee R nn),.d (lds loads),.d (sis sil),.row (swN i 102) arr.length]),(swN i 101,Blk.box (w.cs.map (C.ren (swN i)))),(swN i 102,Blk.row _ 3 ((rowOf Ar.enc arr).map (fun cs=>cs.map (C.ren (swN i)))))]=_;rw[e100,e102,e9100,e1,e2,c1,c2];rfl
theorem HV {n:Nat} {b:Blk} (hb:As (Sz slot turns R nn loads sil arr r0 i w) n=some b):(n=9100/\b=.pin 100 r0)\/(n=20000+i/\b=.pin (8000+i) (R i))\/(n=100/\b=.box (sbC slot turns R nn loads sil arr.length))\/(n=8000+i/\b=.box w.cs)\/(n=102/\b=.row 62 3 (rowOf Ar.enc arr)):=by
 have:=AP hb;simp only[Sz,AjO,AjB,or_false,AkR] at this;exact this
theorem DK {α:Type} {m n:Nat} {x:α} {L:List (Nat×α)} (h:m≠n):As ((m,x) :: L) n=As L n:=by
 have:Nat.beq m n=false:=by
  cases hb:Nat.beq m n with
  |false=>rfl
  |true=>exact absurd (Aki hb) h
 show(bif Nat.beq m n then some x else As L n)=As L n;rw[this];rfl
theorem HL {α:Type} {n:Nat} {x:α} {L:List (Nat×α)}:As ((n,x) :: L) n=some x:=by
 unfold As;rw[Nat.beq_refl];rfl
theorem GF:As (Sz slot turns R nn loads sil arr r0 i w) 9100=some (.pin 100 r0):=by
 unfold Sz;exact HL
theorem J2:As (Sz slot turns R nn loads sil arr r0 i w) (20000+i)=some (.pin (8000+i) (R i)):=by
 unfold Sz;refine(DK ?_).trans ?_
 ·omega
 exact HL
theorem J3:As (Sz slot turns R nn loads sil arr r0 i w) 100=some (.box (sbC slot turns R nn loads sil arr.length)):=by
 unfold Sz;refine(DK ?_).trans ?_
 ·omega
 refine(DK ?_).trans ?_
 ·omega
 exact HL
theorem LC (hi:i<100):As (Sz slot turns R nn loads sil arr r0 i w) (8000+i)=some (.box w.cs):=by
 unfold Sz;refine(DK ?_).trans ?_
 ·omega
 refine(DK ?_).trans ?_
 ·omega
 refine(DK ?_).trans ?_
 ·omega
 exact HL
theorem Iz:As (Sz slot turns R nn loads sil arr r0 i w) 102=some (.row 62 3 (rowOf Ar.enc arr)):=by
 unfold Sz;refine(DK ?_).trans ?_
 ·omega
 refine(DK ?_).trans ?_
 ·omega
 refine(DK ?_).trans ?_
 ·omega
 refine(DK ?_).trans ?_
 ·omega
 exact HL
theorem Us {n:Nat} (h1:n≠9100) (h2:n≠20000+i) (h3:n≠100) (h4:n≠8000+i) (h5:n≠102):As (Sz slot turns R nn loads sil arr r0 i w) n=none:=by
 cases h:As (Sz slot turns R nn loads sil arr r0 i w) n with
 |none=>rfl
 |some b=>rcases HV h with⟨e,_⟩|⟨e,_⟩|⟨e,_⟩|⟨e,_⟩|⟨e,_⟩<;>contradiction
theorem Jl {g:FuncId} (hO:SB l FY) (hX:X.length<=64) (hi:i<X.length) (hph:PhG g slot turns (Ee R X.length) loads sil arr (X.getD i default) arr' v):Aaw g slot turns R X.length loads sil r0 l FY i (arr,X) (arr',X.set i v):=by
 intro E a w ρ Im hs;have hf:FV (fxS slot turns R X.length loads sil arr r0++FY):=JT hO;have hXl:(X.map Wk.cs).length<=100:=by rw[AjK];omega
 have e100:lsS l (fxS slot turns R X.length loads sil arr r0++FY) R X (.b 100)=some (.k (.box (sbC slot turns R X.length loads sil arr.length))):=JN (B7 rfl);have e102:lsS l (fxS slot turns R X.length loads sil arr r0++FY) R X (.b 102)=some (.k (.row 62 3 (rowOf Ar.enc arr))):=JN (B7 rfl);have e9100:lsS l (fxS slot turns R X.length loads sil arr r0++FY) R X (.b 9100)=some (.k (.pin 100 r0)):=JN (B7 rfl);have efam:∀j,j<X.length->lsS l (fxS slot turns R X.length loads sil arr r0++FY) R X (.b (8000+j))=some (.k (.box (X.getD j default).cs)):=fun j hj=>Mw hf hX hj
 have epin:∀j,j<X.length->lsS l (fxS slot turns R X.length loads sil arr r0++FY) R X (.b (20000+j))=some (.k (.pin (8000+j) (R j))):=fun j hj=>Of hf hX hj
 have hr0:ρ 100=r0:=hs.bk 9100 _ e9100;have hRi:ρ (8000+i)=R i:=hs.bk (20000+i) _ (epin i hi);have hF:=FnS.Ajh (Ad0 (i:=i) (by omega)) (hph (fun n=>if n=100 then r0 else R i)) (args':=[.c (.ptr 100 0),.c (.ptr (8000+i) 0)]) (fun w Im S0 ρ vs h=>by
  cases h with
  |cons h1 h=>
   cases h with
   |cons h2 h=>
    cases h;refine .cons ?_ (.cons ?_ .nil)
    ·have h1:_=pvo (ρ 100).blk 0:=h1;show _=pvo (ρ (swN i 100)).blk 0;rw[h1,UH (by omega) (by omega) (by omega) (by omega)]
    ·have h2:_=pvo (ρ (8000+i)).blk 0:=h2;show _=pvo (ρ (swN i 101)).blk 0;rw[h2,X0])
 rw[UY (arr:=arr) (by omega),UY (arr:=arr') (by omega)] at hF;have hc:=hs.AgX hF (vs:=[pvo r0.blk 0,pvo (R i).blk 0])
  (fun n b hb=>by
    rcases HV hb with⟨rfl,rfl⟩|⟨rfl,rfl⟩|⟨rfl,rfl⟩|⟨rfl,rfl⟩|⟨rfl,rfl⟩
    ·exact e9100
    ·exact epin i hi
    ·exact e100
    ·exact efam i hi
    ·exact e102)
  (.cons (by show pvo r0.blk 0=pvo (ρ 100).blk 0;rw[hr0]) (.cons (by show pvo (R i).blk 0=pvo (ρ (8000+i)).blk 0;rw[hRi]) .nil))
  (fun n=>Nat.beq n 102) (fun n h=>by
   have e:=Aki h;subst e;exact⟨_,Iz⟩)
  (fun n h k it hk hq=>by
    have e:=Aki h;subst e;cases hm:it.mentions 102 with
    |false=>rfl
    |true=>
     exfalso;cases k with
     |s t=>
      have hk:(As l t).map Sx.Item.v=some it:=hk;rw[Akh] at hk;obtain⟨y,hy,rfl⟩:=hk;have h1:=hO.ns _ (AP hy);rcases h1.2 102 (AV.Bf h1.1 hm) with h2|h2
      ·cases h2
      ·obtain⟨q,hq1,hq2⟩:=Aj5.1 h2;have:=hO.free q hq1;omega
     |b n=>
      obtain⟨b,hb,rfl⟩:=Pm hk;have hno:=hq n rfl;have hmn:=Blk.Bf hm;rcases B1 hb with h1|⟨j,hj,rfl,rfl⟩|⟨j,hj,rfl,rfl⟩
      ·rcases Ga hO h1 with⟨rfl,rfl⟩|⟨rfl,rfl⟩|⟨rfl,rfl⟩|⟨h3,h4⟩
       ·rw[J3] at hno;cases hno
       ·rw[Iz] at hno;cases hno
       ·rw[GF] at hno;cases hno
       ·rw[hO.nb _ (AP h3)] at hmn;cases hmn
      ·rw[AjK] at hj;rw[Js hj] at hmn;obtain⟨c,hc1,hc2⟩:=List.mem_flatMap.1 hmn;rw[Jt _ c hc1] at hc2;cases hc2
      ·have:102=8000+j:=by simpa [Blk.names] using hmn
       omega)
  (fun n b hb hl hd=>by
    rcases HV hb with⟨rfl,rfl⟩|⟨rfl,rfl⟩|⟨rfl,rfl⟩|⟨rfl,rfl⟩|⟨rfl,rfl⟩
    ·cases hl
    ·cases hl
    ·exact⟨9100,r0,GF,GF⟩
    ·exact⟨20000+i,R i,J2,J2⟩
    ·cases hd)
  (fun n b hb=>by
    rcases HV hb with⟨rfl,rfl⟩|⟨rfl,rfl⟩|⟨rfl,rfl⟩|⟨rfl,rfl⟩|⟨rfl,rfl⟩
    ·exact⟨_,GF⟩
    ·exact⟨_,J2⟩
    ·exact⟨_,J3⟩
    ·exact⟨_,(LC (by omega))⟩
    ·exact⟨_,Iz⟩)
  (fun n b hb=>by
    rcases HV hb with⟨rfl,rfl⟩|⟨rfl,rfl⟩|⟨rfl,rfl⟩|⟨rfl,rfl⟩|⟨rfl,rfl⟩
    ·refine⟨_,GF,fun h=>h,fun m hm=>?_⟩;have hm:=Blk.Bf hm;simp only[Blk.names,AjO,AjB,or_false] at hm;subst hm;exact⟨_,J3,rfl⟩
    ·refine⟨_,J2,fun h=>h,fun m hm=>?_⟩;have hm:=Blk.Bf hm;simp only[Blk.names,AjO,AjB,or_false] at hm;subst hm;exact⟨_,(LC (by omega)),rfl⟩
    ·refine⟨_,J3,fun h=>h,fun m hm=>?_⟩;have hm:=Blk.Bf hm;simp only[Blk.names,List.flatMap_cons,List.flatMap_nil,C.names,Akp,AjQ,AjO,AjB,or_false] at hm;subst hm;exact⟨_,Iz,rfl⟩
    ·refine⟨_,(LC (by omega)),fun h=>h,fun m hm=>?_⟩;have hm:=Blk.Bf hm;exfalso;obtain⟨c,hc1,hc2⟩:=List.mem_flatMap.1 hm;rw[Jt _ c hc1] at hc2;cases hc2
    ·refine⟨_,Iz,fun h=>h,fun m hm=>?_⟩;have hm:=Blk.Bf hm;rw[Bi] at hm;cases hm)
  (τ:=WA (lsS l (fxS slot turns R X.length loads sil arr r0++FY) R X) (Sz slot turns R X.length loads sil arr' r0 i v)) (fun _=>rfl) (fun _=>rfl)
 refine hc.mono ?_;rintro e w' ⟨v0,he,ht,ρ2,Im2,h2⟩;refine⟨v0,he,ht,ρ2,Im2,h2.sub (fun k it hk=>?_) (Ry hO (by rw[AjJ];exact hX))⟩;cases k with
 |s t=>exact hk
 |b n=>
  obtain⟨b,hb,rfl⟩:=Pm hk;rcases B1 hb with h1|⟨j,hj,rfl,rfl⟩|⟨j,hj,rfl,rfl⟩
  ·rcases Ga hO h1 with⟨rfl,rfl⟩|⟨rfl,rfl⟩|⟨rfl,rfl⟩|⟨h3,h4⟩
   ·exact Dk J3
   ·exact Dk Iz
   ·exact Dk GF
   ·rw[Ic (Us (by omega) (by omega) (by omega) (by omega) (by omega))];exact JN (B7 (ZA hO h3))
  ·rw[AjK,AjJ] at hj;rw[Js (by rw[AjJ];exact hj)];by_cases e:i=j
   ·subst e;rw[UO hj];exact Dk (LC (by omega))
   ·rw[JB e,Ic (Us (by omega) (by omega) (by omega) (by omega) (by omega))];exact efam j hj
  ·rw[AjK,AjJ] at hj;by_cases e:i=j
   ·subst e;exact Dk J2
   ·rw[Ic (Us (by omega) (by omega) (by omega) (by omega) (by omega))];exact epin j hj
end
theorem Ab4 (l:List Ar) (hl:l.length<=100000):FnS Tryz.prog 86 [AD (ars l)] [] (.c (.row 7 l.length)) [(7,.row 62 3 (rowOf Ar.enc l))]:=by
 refine Ao func86 ntmps86 results86 fun E hS=>?_
 refine AG ?_
 repeat'(first|refine AJ ?_|refine sq 1 rfl ?_|fail)
 refine Dw ?_;refine Dw ?_;refine GM rfl rfl rfl rfl fun b hb=>?_
 repeat'(first|refine Ad ?_|refine Ap ?_|(refine Av ?_ ?_<;>intro h hq)|fail)
 ·have h0:l=[]:=Akm (hb (by assumption));subst h0;exact Ag (le_nil (T:=62) (sz:=3) (nm:=7) (t:=2) rfl rfl) (BI Ae rfl rfl)
 ·refine Ag (A0 (l:=[(2,.c (.row 7 l.length))]) (b:=[(7,.row 62 3 (rowOf Ar.enc l))]) (fun n=>n) ⟨⟨_,rfl,.c (.row rfl (by simp))⟩,tt0⟩ ⟨⟨_,rfl,.CJ ?_ Ai⟩,tt0⟩ rfl (by simp only[wfL,wfs];rfl)) (BI Ae rfl rfl);exact(Akp _).trans (Dr (enc:=Ar.enc) (sz:=3) fun _=>rfl)
def stX (l:List (Nat×AV)) (FX:List (Nat×Blk)) (R:Nat->RI) (X:List Wk):St
 |.s t=>(As l t).map .v
 |.b n=>bif Nat.blt n 8000||(Nat.ble 8100 n&&Nat.blt n 20000) then(As FX n).map .k else(As (Ef FX R (X.map Wk.cs)) n).map .k
theorem WI {FX:List (Nat×Blk)} {R:Nat->RI} {X:List (List C)} {n:Nat} (hX:X.length<=100) (hn:n<8000\/(8100<=n/\n<20000)) (h:As FX n=none):As (Ef FX R X) n=none:=by
 cases h1:As (Ef FX R X) n with
 |none=>rfl
 |some b=>
  rcases B1 h1 with h2|⟨i,_,rfl,_⟩|⟨j,_,rfl,_⟩
  ·rw[h] at h2;cases h2
  ·omega
  ·omega
theorem DX {l:List (Nat×AV)} {FX:List (Nat×Blk)} {R:Nat->RI} {X:List Wk} (hX:X.length<=100):lsS l FX R X=stX l FX R X:=by
 funext k
 cases k with
 |s t=>rfl
 |b n=>
  show(As (Ef FX R (X.map Wk.cs)) n).map Sx.Item.k=bif Nat.blt n 8000||(Nat.ble 8100 n&&Nat.blt n 20000) then(As FX n).map Sx.Item.k else(As (Ef FX R (X.map Wk.cs)) n).map Sx.Item.k;cases hb:Nat.blt n 8000||(Nat.ble 8100 n&&Nat.blt n 20000) with
  |false=>rfl
  |true=>
   have hn:n<8000\/(8100<=n/\n<20000):=by simpa using hb
   cases h:As FX n with
   |some b=>rw[B7 h];rfl
   |none=>rw[WI (by rw[AjK];exact hX) hn h];rfl
def Sy (m:Me) (k:Nat):List Wk:=(List.range k).map fun i=>Aft (m.nodes.getD i default) i
def GZ (R:Nat->RI) (k:Nat):List Nat:=(List.range k).map fun j=>(R j).blk
def fx0 (m:Me) (loads:List Ld) (sil:List Si) (R:Nat->RI) (k:Nat):List (Nat×Blk):=
 [(100,.box [.d (.int .i64 m.slot),.d (.int .i64 m.turns),.row 103 (GZ R k).length,.d (lds loads),.d (sis sil),.row 102 m.arr.length]),(102,.row 62 3 (rowOf Ar.enc m.arr)),(103,.row 136 1 (rowOf Ot (GZ R k))),(3,.box m.cs),(6,.box (Me.cs ⟨[],0,0,[]⟩))]
theorem Is {m:Me} {loads:List Ld} {sil:List Si} {R:Nat->RI} {k:Nat}:FV (fx0 m loads sil R k):=by
 intro p hp;simp only[fx0,AjO,AjB,or_false] at hp;rcases hp with rfl|rfl|rfl|rfl|rfl<;>simp
theorem Rz {m:Me} {loads:List Ld} {sil:List Si} {R:Nat->RI} {k:Nat} {Y:List (List C)}:∀p∈fx0 m loads sil R k,∀n∈p.2.names,(As (Ef (fx0 m loads sil R k) R Y) n).isSome=true:=by
 intro p hp;simp only[fx0,AjO,AjB,or_false] at hp;rcases hp with rfl|rfl|rfl|rfl|rfl<;>intro n hn
 ·simp only[Blk.names,List.flatMap_cons,List.flatMap_nil,C.names,Akp,AjQ,AjO,AjB,or_false,Akt] at hn;rcases hn with rfl|rfl<;>rfl
 ·rw[Bi] at hn;cases hn
 ·rw[Bi] at hn;cases hn
 ·simp[Blk.names,Me.cs,C.names] at hn
 ·simp[Blk.names,Me.cs,C.names] at hn
theorem Le.tr {P:Program} {N:Nat} {E:Env P N} {σ τ υ:St} (h1:Le E σ τ) (h2:Le E τ υ):Le E σ υ:=fun a w h=>h2 a w (h1 a w h)
def NG (R:Nat->RI) (k:Nat) (r:RI):Nat->RI:=fun j=>if j=k then r else R j
theorem QO {R:Nat->RI} {k:Nat} {r:RI}:GZ (NG R k r) (k+1)=GZ R k++[r.blk]:=by
 unfold GZ;rw[AkN,Akl]
 congr 1
 ·refine AkS fun j hj=>?_
  have:=Aj2.1 hj;unfold NG;rw[Akb (by omega)]
 ·simp[NG]
theorem AcH {m:Me} {k j:Nat} (h:j<k):(Sy m k).getD j default=Aft (m.nodes.getD j default) j:=by
 simp[Sy,Ajt,h]
theorem MH {m:Me} {k:Nat}:(Sy m k).length=k:=by simp[Sy]
def gNm (k n:Nat):Nat:=if n=8000+k then 44 else if n=20000+k then 9044 else if n=103 then 46 else n
theorem AbL {k n:Nat} (h1:n≠8000+k) (h2:n≠20000+k) (h3:n≠103):gNm k n=n:=by
 unfold gNm;rw[Akb h1,Akb h2,Akb h3]
theorem Vn {m:Me} {loads:List Ld} {sil:List Si} {R:Nat->RI} {k n:Nat} {b:Blk} (h:As (fx0 m loads sil R k) n=some b):
  (n=100/\b=.box [.d (.int .i64 m.slot),.d (.int .i64 m.turns),.row 103 (GZ R k).length,.d (lds loads),.d (sis sil),.row 102 m.arr.length])\/(n=102/\b=.row 62 3 (rowOf Ar.enc m.arr))\/(n=103/\b=.row 136 1 (rowOf Ot (GZ R k)))\/(n=3/\b=.box m.cs)\/(n=6/\b=.box (Me.cs ⟨[],0,0,[]⟩)):=by
 have:=AP h;simp only[fx0,AjO,AjB,or_false,AkR] at this;exact this
theorem AgF {E:Env Tryz.prog 116} {σ:St} {m:Me} {loads:List Ld} {sil:List Si} {R:Nat->RI} {k:Nat} {r:RI} (hk:k<64)
  (s3:σ (.s 3)=some (.v (.c (.ptr 3 0)))) (s6:σ (.s 6)=some (.v (.c (.ptr 6 0)))) (s7:σ (.s 7)=some (.v (.c (.ptr 100 0)))) (s29:σ (.s 29)=some (.v (AD (mns m.nodes)))) (s30:σ (.s 30)=some (.v (AI m.nodes.length))) (s31:σ (.s 31)=some (.v (AI ((k+1:Nat):Int))))
  (h100:σ (.b 100)=some (.k (.box [.d (.int .i64 m.slot),.d (.int .i64 m.turns),.row 46 ((GZ R k).length+1),.d (lds loads),.d (sis sil),.row 102 m.arr.length]))) (h102:σ (.b 102)=some (.k (.row 62 3 (rowOf Ar.enc m.arr))))
  (h46:σ (.b 46)=some (.k (.row 136 1 (rowOf Ot (GZ R k)++[[.d (.raw (pvo r.blk 0))]])))) (h3:σ (.b 3)=some (.k (.box m.cs))) (h6:σ (.b 6)=some (.k (.box (Me.cs ⟨[],0,0,[]⟩))))
  (h44:σ (.b 44)=some (.k (.box (Aft (m.nodes.getD k default) k).cs))) (hpn:σ (.b 9044)=some (.k (.pin 44 r)))
  (hfam:∀j,j<k->σ (.b (8000+j))=some (.k (.box ((Sy m k).getD j default).cs))) (hpin:∀j,j<k->σ (.b (20000+j))=some (.k (.pin (8000+j) (R j)))):
  Le E σ (lsS [(3,.c (.ptr 3 0)),(6,.c (.ptr 6 0)),(7,.c (.ptr 100 0)),(29,AD (mns m.nodes)),(30,AI m.nodes.length),(31,AI ((k+1:Nat):Int))] (fx0 m loads sil (NG R k r) (k+1)) (NG R k r) (Sy m (k+1))):=by
 have hid:∀{n},n<8000->n≠103->gNm k n=n:=fun h1 h2=>AbL (by omega) (by omega) h2
 have hX:((Sy m (k+1)).map Wk.cs).length<=100:=by rw[AjK,MH];omega
 refine Y9 (gNm k) ⟨⟨_,s3,.c (.ptr (hid (by omega) (by omega)))⟩,⟨_,s6,.c (.ptr (hid (by omega) (by omega)))⟩,⟨_,s7,.c (.ptr (hid (by omega) (by omega)))⟩,⟨_,s29,.c .d⟩,⟨_,s30,.c .d⟩,⟨_,s31,.c .d⟩,tt0⟩ (fun n x hx=>?_) (fun n1 n2 h1 h2 hne he=>?_) (Pg Is hX ?_ Rz (Hu _))
 ·rcases B1 hx with h|⟨j,hj,rfl,rfl⟩|⟨j,hj,rfl,rfl⟩
  ·rcases Vn h with⟨rfl,rfl⟩|⟨rfl,rfl⟩|⟨rfl,rfl⟩|⟨rfl,rfl⟩|⟨rfl,rfl⟩
   ·rw[hid (n:=100) (by omega) (by omega)];refine⟨_,h100,.box (.cons .d (.cons .d (.cons (.row ?_ ?_) (.cons .d (.cons .d (.cons (.row (hid (by omega) (by omega)) rfl) .nil))))))⟩
    ·unfold gNm;rw[Akb (by omega),Akb (by omega),Akc rfl]
    ·rw[QO,Ajy];rfl
   ·rw[hid (n:=102) (by omega) (by omega)];exact⟨_,h102,.CJ rfl Ai⟩
   ·have e:gNm k 103=46:=by
     unfold gNm;rw[Akb (by omega),Akb (by omega),Akc rfl]
    rw[e];refine⟨_,h46,.CJ ?_ Ai⟩;rw[QO];exact(AF (enc:=Ot) (l:=GZ R k) (m:=[r.blk])).symm
   ·rw[hid (n:=3) (by omega) (by omega)];exact⟨_,h3,.FA rfl rfl⟩
   ·rw[hid (n:=6) (by omega) (by omega)];exact⟨_,h6,.FA rfl rfl⟩
  ·rw[AjK,MH] at hj;rw[Js (by rw[MH];exact hj),AcH hj];by_cases e:j=k
   ·subst e;rw[show gNm j (8000+j)=44 from Akc rfl];exact⟨_,h44,.FA rfl rfl⟩
   ·rw[AbL (by omega) (by omega) (by omega)];refine⟨_,hfam j (by omega),?_⟩;rw[AcH (by omega)];exact .FA rfl rfl
  ·rw[AjK,MH] at hj;by_cases e:j=k
   ·subst e;rw[show gNm j (20000+j)=9044 from by unfold gNm;rw[Akb (by omega),Akc rfl],show NG R j r j=r from Akc rfl];exact⟨_,hpn,.pin (Akc rfl)⟩
   ·rw[AbL (by omega) (by omega) (by omega),show NG R k r j=R j from Akb e];exact⟨_,hpin j (by omega),.pin (AbL (by omega) (by omega) (by omega))⟩
 ·have key:∀n,(As (Ef (fx0 m loads sil (NG R k r) (k+1)) (NG R k r) ((Sy m (k+1)).map Wk.cs)) n).isSome=true->n=100\/n=102\/n=103\/n=3\/n=6\/(8000<=n/\n<8100)\/(20000<=n/\n<20100):=fun n h=>by
   obtain⟨b,hb⟩:=Akk.1 h;rcases B1 hb with h|⟨j,hj,rfl,_⟩|⟨j,hj,rfl,_⟩
   ·rcases Vn h with⟨rfl,_⟩|⟨rfl,_⟩|⟨rfl,_⟩|⟨rfl,_⟩|⟨rfl,_⟩<;>simp
   ·omega
   ·omega
  have k1:=key n1 h1;have k2:=key n2 h2;unfold gNm at he
  repeat' split at he
  all_goals omega
 ·intro p hp;simp only[AjO,AjB,or_false] at hp;rcases hp with rfl|rfl|rfl|rfl|rfl|rfl<;>refine⟨rfl,fun n hn=>?_⟩<;>simp only[AV.names,AV.CE,C.names,AjO,AjB,or_false] at hn<;>subst hn<;>rfl
end Go.Proofs.M
namespace Go.Proofs.M
open Go Go.Sx Go.RowKit Go.Proofs Go.Proofs.T Go.Proofs.Q
theorem Xq {id:Nat} {Q:Exit->St->Prop} {σ:St} (h:blockQ id Q .outgrown σ):Q .outgrown σ:=h
attribute [local irreducible] VR VC thenQ blockQ retL VX
def fnV (g:FuncId) (r0:RI):Value:=.func (.func g) #[pvo r0.blk 0] #[]
theorem X7 {l:List (Nat×AV)} {FX:List (Nat×Blk)} {R:Nat->RI} {X:List Wk} {d:Nat} {x:AV} (hd:As l d=none) {k:Key} {it:Sx.Item} (h:lsS l FX R X k=some it):((lsS l FX R X).upd (.s d) (some (.v x))) k=some it:=by
 by_cases e:Key.s d=k
 ·subst e;have h:(As l d).map Sx.Item.v=some it:=h;rw[hd] at h;cases h
 ·rw[St.At _ _ e];exact h
theorem Um {E:Env Tryz.prog 116} {g:FuncId} {slot turns:Int} {R:Nat->RI} {nn:Nat} {loads:List Ld} {sil:List Si} {r0:RI} {l:List (Nat×AV)} {FY:List (Nat×Blk)} {i:Nat} {A B:List Ar×List Wk} (hO:SB l FY) (hA:A.2.length<=64) (hB:B.2.length<=64)
  (h81:As l 81=none) (h82:As l 82=none) (h83:As l 83=none) (h11:As l 11=some (AD (.raw (fnV g r0)))) (h13:As l 13=some (AD (.raw (pvo (R i).blk 0)))) (hen:Enters Tryz.prog g) (hC:Aaw g slot turns R nn loads sil r0 l FY i A B)
  {Q:Exit->St->Prop} (hno:∀σ,¬Q .outgrown σ) (h:Q .normal (lsS l (fxS slot turns R nn loads sil B.1 r0++FY) R B.2)) {p0 p1 p2:String} {a0 a1 af:Array Edge} {t1 t2 t3:TypeId}:
  VC E (.region 13 #[⟨some 81,.move (.tmp 11),t1,p0,a0,none⟩,⟨some 82,.move (.tmp 13),t2,p1,a1,none⟩,⟨some 83,.call ⟨.value (.tmp 81),#[.tmp 82],#[136]⟩,t3,p2,af,none⟩] false) Q (lsS l (fxS slot turns R nn loads sil A.1 r0++FY) R A.2):=by
 refine VC.mk fun a w hs=>?_
 have hno:¬LetsOut (fun e a' w'=>∃σ',Sat E σ' a' w'/\Q e σ'):=by
  rintro⟨a,w,σ',_,h⟩;exact hno σ' h
 refine wpIn_wide (n:=3).1 (wpIn_region_lit ?_);refine Hg 2 ?_;refine Mz hno ?_ _ _ hs;have e11:ev (lsS l (fxS slot turns R nn loads sil A.1 r0++FY) R A.2) (.tmp 11)=some (AD (.raw (fnV g r0))):=by
  simp[ev,AN,h11]
 refine SG (gk rfl) e11 rfl ?_;have e13:ev ((lsS l (fxS slot turns R nn loads sil A.1 r0++FY) R A.2).set 81 (AD (.raw (fnV g r0)))) (.tmp 13)=some (AD (.raw (pvo (R i).blk 0))):=by
  have e:((lsS l (fxS slot turns R nn loads sil A.1 r0++FY) R A.2).set 81 (AD (.raw (fnV g r0)))) (.s 13)=some (.v (AD (.raw (pvo (R i).blk 0)))):=by
   rw[St.set,St.At _ _ (by decide)];show(As l 13).map Sx.Item.v=_;rw[h13];rfl
  simp[ev,e]
 refine SG (gk rfl) e13 rfl ?_;refine XG ?_;rintro a2 w2 ⟨ρ,Im,hs2⟩;have hr81:a2.eval (.tmp 81)=fnV g r0:=(hs2.fr 81 (AD (.raw (fnV g r0))) rfl).1;have hr82:a2.eval (.tmp 82)=pvo (R i).blk 0:=(hs2.fr 82 (AD (.raw (pvo (R i).blk 0))) rfl).1;have hs3:A8 E (lsS l (fxS slot turns R nn loads sil A.1 r0++FY) R A.2) a2 w2 ρ Im:=by
  refine hs2.sub (fun k it hk=>?_) (Ry hO hA);have h1:=X7 (x:=AD (.raw (fnV g r0))) h81 hk;by_cases e:Key.s 82=k
  ·subst e;have hk:(As l 82).map Sx.Item.v=some it:=hk;rw[h82] at hk;cases hk
  ·rw[St.set,St.At _ _ e];exact h1
 have hrun:(execOp a2.eval ⟨some 83,.call ⟨.value (.tmp 81),#[.tmp 82],#[136]⟩,t3,p2,af,none⟩).run Tryz.prog w2=.ok (.enter g #[pvo r0.blk 0,pvo (R i).blk 0]) w2:=by
  have h1:=hen #[pvo r0.blk 0,pvo (R i).blk 0] w2;simp only[execOp,resolve,hr81,hr82,fnV,Deferred.ofValue,Sem.run_bind,Sem.run_pure,Result.andThen_ok,List.map_toArray,Akq,Aku];simp[invoke,hr82];exact h1
 refine Un hrun (hC hs3) ?_;rintro v w3 ⟨ht,ρ2,Im2,hs4⟩;have hs5:=hs4.put (d:=83) (by decide) (x:=.tup []) (v:=v) (by
  obtain⟨us,hv,hu⟩:=ht;subst hu;exact⟨[],hv,.nil⟩) (fun nm hn=>by cases hn)
 refine Vh 0 (pre:=[]) (rest:=[]) rfl rfl ?_;refine Mz hno (XG ?_) _ _ ⟨ρ2,Im2,hs5⟩;intro a6 w6 hs6;refine⟨_,?_,h⟩;obtain⟨ρ6,Im6,hs6⟩:=hs6;exact⟨ρ6,Im6,hs6.sub (fun k it hk=>X7 h83 hk) (Ry hO hB)⟩
end Go.Proofs.M
namespace Go.Proofs.M
open Go Go.Sx Go.RowKit Go.Proofs Go.Proofs.T Go.Proofs.Q
attribute [local irreducible] VR VC thenQ blockQ retL VX
def Ss (A:List Ar×List Wk) (i:Nat):List MN:=(A.2.take i).map (·.nd)
theorem U4 {A:List Ar×List Wk} {i:Nat} (h:i<A.2.length):Ss A (i+1)=Ss A i++[(A.2.getD i default).nd]:=by
 unfold Ss;rw[Ak5,Akl,Ajt,AjC h];rfl
theorem Aej {A:List Ar×List Wk} {i:Nat} (h:i<=A.2.length):(Ss A i).length=i:=by simp[Ss,h]
def fx6 (m:Me) (A:List Ar×List Wk) (i:Nat):List (Nat×Blk):=
 [(14,.box [.row 104 (Ss A i).length,.d (.int .i64 (m.slot+1)),.d (.int .i64 m.turns),.row 102 A.1.length]),(102,.row 62 3 (rowOf Ar.enc A.1)),(104,.row 45 22 (rowOf MN.enc (Ss A i))),(6,.box (Me.cs ⟨[],0,0,[]⟩))]
theorem EK {m:Me} {A:List Ar×List Wk} {i:Nat}:FV (fx6 m A i):=by
 intro p hp;simp only[fx6,AjO,AjB,or_false] at hp;rcases hp with rfl|rfl|rfl|rfl<;>simp
theorem MI {m:Me} {A:List Ar×List Wk} {i:Nat} {R:Nat->RI} {Y:List (List C)}:∀p∈fx6 m A i,∀n∈p.2.names,(As (Ef (fx6 m A i) R Y) n).isSome=true:=by
 intro p hp;simp only[fx6,AjO,AjB,or_false] at hp;rcases hp with rfl|rfl|rfl|rfl<;>intro n hn
 ·simp only[Blk.names,List.flatMap_cons,List.flatMap_nil,C.names,Akp,AjQ,AjO,AjB,or_false,Akt] at hn;rcases hn with rfl|rfl<;>rfl
 ·rw[Bi] at hn;cases hn
 ·rw[Bi] at hn;cases hn
 ·simp[Blk.names,Me.cs,C.names] at hn
theorem Vm {m:Me} {A:List Ar×List Wk} {i n:Nat} {b:Blk} (h:As (fx6 m A i) n=some b):
  (n=14/\b=.box [.row 104 (Ss A i).length,.d (.int .i64 (m.slot+1)),.d (.int .i64 m.turns),.row 102 A.1.length])\/(n=102/\b=.row 62 3 (rowOf Ar.enc A.1))\/(n=104/\b=.row 45 22 (rowOf MN.enc (Ss A i)))\/(n=6/\b=.box (Me.cs ⟨[],0,0,[]⟩)):=by
 have:=AP h;simp only[fx6,AjO,AjB,or_false,AkR] at this;exact this
def oN (n:Nat):Nat:=if n=104 then 112 else n
theorem Aer {n:Nat} (h:n≠104):oN n=n:=Akb h
theorem AgE {E:Env Tryz.prog 116} {σ:St} {m:Me} {R:Nat->RI} {A:List Ar×List Wk} {i:Nat} (hA:A.2.length<=64) (hi:i<A.2.length)
  (s6:σ (.s 6)=some (.v (.c (.ptr 6 0)))) (s14:σ (.s 14)=some (.v (.c (.ptr 14 0)))) (s99:σ (.s 99)=some (.v (AD (Ee R m.nodes.length)))) (s100:σ (.s 100)=some (.v (AI m.nodes.length))) (s101:σ (.s 101)=some (.v (AI ((i+1:Nat):Int))))
  (h14:σ (.b 14)=some (.k (.box [.row 112 ((Ss A i).length+1),.d (.int .i64 (m.slot+1)),.d (.int .i64 m.turns),.row 102 A.1.length]))) (h102:σ (.b 102)=some (.k (.row 62 3 (rowOf Ar.enc A.1))))
  (h112:σ (.b 112)=some (.k (.row 45 22 (rowOf MN.enc (Ss A i)++[(A.2.getD i default).nd.enc.map C.d])))) (h6:σ (.b 6)=some (.k (.box (Me.cs ⟨[],0,0,[]⟩))))
  (hfam:∀j,j<A.2.length->σ (.b (8000+j))=some (.k (.box (A.2.getD j default).cs))) (hpin:∀j,j<A.2.length->σ (.b (20000+j))=some (.k (.pin (8000+j) (R j)))):
  Le E σ (lsS [(6,.c (.ptr 6 0)),(14,.c (.ptr 14 0)),(99,AD (Ee R m.nodes.length)),(100,AI m.nodes.length),(101,AI ((i+1:Nat):Int))] (fx6 m A (i+1)) R A.2):=by
 have hX:(A.2.map Wk.cs).length<=100:=by rw[AjK];omega
 have key:∀n,(As (Ef (fx6 m A (i+1)) R (A.2.map Wk.cs)) n).isSome=true->n≠112:=fun n h=>by
  obtain⟨b,hb⟩:=Akk.1 h;rcases B1 hb with h|⟨j,hj,rfl,_⟩|⟨j,hj,rfl,_⟩
  ·rcases Vm h with⟨rfl,_⟩|⟨rfl,_⟩|⟨rfl,_⟩|⟨rfl,_⟩<;>omega
  ·omega
  ·omega
 refine Y9 oN ⟨⟨_,s6,.c (.ptr rfl)⟩,⟨_,s14,.c (.ptr rfl)⟩,⟨_,s99,.c .d⟩,⟨_,s100,.c .d⟩,⟨_,s101,.c .d⟩,tt0⟩ (fun n x hx=>?_) (fun n1 n2 h1 h2 hne he=>?_) (Pg EK hX ?_ MI (Hu _))
 ·rcases B1 hx with h|⟨j,hj,rfl,rfl⟩|⟨j,hj,rfl,rfl⟩
  ·rcases Vm h with⟨rfl,rfl⟩|⟨rfl,rfl⟩|⟨rfl,rfl⟩|⟨rfl,rfl⟩
   ·refine⟨_,h14,.box (.cons (.row rfl ?_) (.cons .d (.cons .d (.cons (.row rfl rfl) .nil))))⟩;rw[U4 hi,Ajy];rfl
   ·exact⟨_,h102,.CJ rfl Ai⟩
   ·refine⟨_,h112,.CJ ?_ Ai⟩;rw[U4 hi];exact(AF (enc:=MN.enc) (l:=Ss A i) (m:=[(A.2.getD i default).nd])).symm
   ·exact⟨_,h6,.FA rfl rfl⟩
  ·rw[AjK] at hj;rw[Js hj,Aer (by omega)];exact⟨_,hfam j hj,.FA rfl rfl⟩
  ·rw[AjK] at hj;rw[Aer (by omega)];exact⟨_,hpin j hj,.pin (Aer (by omega))⟩
 ·have k1:=key n1 h1;have k2:=key n2 h2;unfold oN at he
  repeat' split at he
  all_goals omega
 ·intro p hp;simp only[AjO,AjB,or_false] at hp;rcases hp with rfl|rfl|rfl|rfl|rfl<;>refine⟨rfl,fun n hn=>?_⟩<;>simp only[AV.names,AV.CE,C.names,AjO,AjB,or_false] at hn<;>subst hn<;>rfl
end Go.Proofs.M
