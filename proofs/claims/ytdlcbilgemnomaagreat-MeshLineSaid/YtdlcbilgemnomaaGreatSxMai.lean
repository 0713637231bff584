/-
  What functions of the program hand back, and plain laws on that. No condition.
-/
import Derived.Test.YtdlcbilgemnomaaGreatSxMah
import Derived.Test.YtdlcbilgemnomaaGreatSxMac
import Derived.Test.YtdlcbilgemnomaaGreatSxMad
import Derived.Test.YtdlcbilgemnomaaGreatSxMaa
import Derived.Test.YtdlcbilgemnomaaGreatSxLibC
import Derived.Test.YtdlcbilgemnomaaGreatSxMaf
set_option linter.unusedSimpArgs false
set_option linter.unusedVariables false
section
namespace Go.Proofs.M
open Go Go.Sx Go.RowKit Go.Proofs Go.Proofs.T Go.Proofs.Q
set_option maxRecDepth 4000
attribute [local irreducible] VR VC thenQ blockQ retL VX
abbrev PhG (f:FuncId) (slot turns:Int) (nv:D) (loads:List Ld) (sil:List Si) (arr:List Ar) (w:Wk) (arr':List Ar) (v:Wk):Prop:=
 FnW Tryz.prog f [.c (.ptr 100 0),.c (.ptr 101 0)] [(100,.box [.d (.int .i64 slot),.d (.int .i64 turns),.d nv,.d (lds loads),.d (sis sil),.row 102 arr.length]),(101,.box w.cs),(102,.row 62 3 (rowOf Ar.enc arr))] [100,101] (.tup []) [(100,.box [.d (.int .i64 slot),.d (.int .i64 turns),.d nv,.d (lds loads),.d (sis sil),.row 102 arr'.length]),(101,.box v.cs),(102,.row 62 3 (rowOf Ar.enc arr'))]
section
variable {f:FuncId} {slot turns:Int} {nv:D} {loads:List Ld} {sil:List Si} {arr arr':List Ar} {w v:Wk}
theorem PhS.toG (h:PhS f slot turns nv loads sil arr w v):PhG f slot turns nv loads sil arr w arr v:=by
 intro r;obtain⟨h1,_⟩:=h r;refine⟨h1,fun w0 ρ Im S0 vs hv hm=>?_⟩;obtain⟨_,h2⟩:=h (fun n=>if n=102 then ρ 102 else r n);have hin:∀n b,AS [] (Cg [100,101,102] (fun n=>if n=102 then ρ 102 else r n)++[(100,.box [.d (.int .i64 slot),.d (.int .i64 turns),.d nv,.d (lds loads),.d (sis sil),.row 102 arr.length]),(101,.box w.cs),(102,.row 62 3 (rowOf Ar.enc arr))]) (.b n)=some (.k b)->(n=9102/\b=.pin 102 (ρ 102))\/AS [] (Cg [100,101] r++[(100,.box [.d (.int .i64 slot),.d (.int .i64 turns),.d nv,.d (lds loads),.d (sis sil),.row 102 arr.length]),(101,.box w.cs),(102,.row 62 3 (rowOf Ar.enc arr))]) (.b n)=some (.k b):=by
  intro n b hb;simp only[AS,Ag4] at hb;obtain⟨y,hy,e⟩:=hb;injection e with e;subst e
  have hmem:=AE hy;simp only[Cg,List.map_cons,List.map_nil,List.cons_append,List.nil_append,AgD,Agq,or_false,Prod.mk.injEq] at hmem;rcases hmem with⟨rfl,rfl⟩|⟨rfl,rfl⟩|⟨rfl,rfl⟩|⟨rfl,rfl⟩|⟨rfl,rfl⟩|⟨rfl,rfl⟩<;>first|exact .inr rfl|exact .inl ⟨rfl,rfl⟩
 have hout:∀n b,AS [] (Cg [100,101] r++[(100,.box [.d (.int .i64 slot),.d (.int .i64 turns),.d nv,.d (lds loads),.d (sis sil),.row 102 arr.length]),(101,.box v.cs),(102,.row 62 3 (rowOf Ar.enc arr))]) (.b n)=some (.k b)->AS [] (Cg [100,101,102] (fun n=>if n=102 then ρ 102 else r n)++[(100,.box [.d (.int .i64 slot),.d (.int .i64 turns),.d nv,.d (lds loads),.d (sis sil),.row 102 arr.length]),(101,.box v.cs),(102,.row 62 3 (rowOf Ar.enc arr))]) (.b n)=some (.k b):=by
  intro n b hb;simp only[AS,Ag4] at hb;obtain⟨y,hy,e⟩:=hb;injection e with e;subst e
  have hmem:=AE hy;simp only[Cg,List.map_cons,List.map_nil,List.cons_append,List.nil_append,AgD,Agq,or_false,Prod.mk.injEq] at hmem;rcases hmem with⟨rfl,rfl⟩|⟨rfl,rfl⟩|⟨rfl,rfl⟩|⟨rfl,rfl⟩|⟨rfl,rfl⟩<;>rfl
 have hl:∀n b,AS [] (Cg [100,101,102] (fun n=>if n=102 then ρ 102 else r n)++[(100,.box [.d (.int .i64 slot),.d (.int .i64 turns),.d nv,.d (lds loads),.d (sis sil),.row 102 arr.length]),(101,.box w.cs),(102,.row 62 3 (rowOf Ar.enc arr))]) (.b n)=some (.k b)->b.live=true->AS [] (Cg [100,101] r++[(100,.box [.d (.int .i64 slot),.d (.int .i64 turns),.d nv,.d (lds loads),.d (sis sil),.row 102 arr.length]),(101,.box w.cs),(102,.row 62 3 (rowOf Ar.enc arr))]) (.b n)=some (.k b):=fun n b hb hlv=>by
  rcases hin n b hb with⟨_,rfl⟩|h
  ·cases hlv
  ·exact h
 have hm2:E0 (⟨w0,Im,S0⟩:Env Tryz.prog 0) (AS [] (Cg [100,101,102] (fun n=>if n=102 then ρ 102 else r n)++[(100,.box [.d (.int .i64 slot),.d (.int .i64 turns),.d nv,.d (lds loads),.d (sis sil),.row 102 arr.length]),(101,.box w.cs),(102,.row 62 3 (rowOf Ar.enc arr))])) w0 ρ Im:=by
  refine⟨fun n b hb=>?_,fun n b hb hlv=>hm.own n b (hl n b hb hlv) hlv,fun n1 n2 b1 b2 g1 g2 l1 l2=>hm.inj n1 n2 b1 b2 (hl _ _ g1 l1) (hl _ _ g2 l2) l1 l2,fun c hc=>⟨(hm.im c hc).1,(hm.im c hc).2.1,fun n b hb hlv=>(hm.im c hc).2.2 n b (hl _ _ hb hlv) hlv⟩,hm.A8⟩;rcases hin n b hb with⟨rfl,rfl⟩|h
  ·rfl
  ·exact hm.bk n b h
 refine(h2 w0 ρ Im S0 vs hv hm2).mono ?_;rintro e w' ⟨v0,ρ',Im',he,hm',hr,_⟩;exact⟨v0,ρ',Im',he,⟨fun n b hb=>hm'.bk n b (hout n b hb),fun n b hb=>hm'.own n b (hout n b hb),fun n1 n2 b1 b2 g1 g2=>hm'.inj n1 n2 b1 b2 (hout _ _ g1) (hout _ _ g2),fun c hc=>⟨(hm'.im c hc).1,(hm'.im c hc).2.1,fun n b hb=>(hm'.im c hc).2.2 n b (hout _ _ hb)⟩,hm'.A8⟩,hr,trivial⟩
end
section
variable {slot turns:Int} {R:Nat->RI} {nn:Nat} {loads:List Ld} {sil:List Si} {arr arr':List Ar} {r0:RI} {l:List (Nat×AV)} {FY:List (Nat×Blk)} {X:List Wk} {i:Nat} {w v:Wk}
def Px (slot turns:Int) (R:Nat->RI) (nn:Nat) (loads:List Ld) (sil:List Si) (arr:List Ar) (r0:RI) (i:Nat) (w:Wk):List (Nat×Blk):=
 [(9100,.pin 100 r0),(20000+i,.pin (8000+i) (R i)),(100,.box (sbC slot turns R nn loads sil arr.length)),(8000+i,.box w.cs),(102,.row 62 3 (rowOf Ar.enc arr))]
theorem Rt (hi:i<100):WM (swN i) (Cg [100,101] (fun n=>if n=100 then r0 else R i)++[(100,.box (sbC slot turns R nn loads sil arr.length)),(101,.box w.cs),(102,.row 62 3 (rowOf Ar.enc arr))])=Px slot turns R nn loads sil arr r0 i w:=by
 have e100:swN i 100=100:=Rb (by omega) (by omega) (by omega) (by omega);have e102:swN i 102=102:=Rb (by omega) (by omega) (by omega) (by omega);have e9100:swN i 9100=9100:=Rb (by omega) (by omega) (by omega) (by omega);have e1:swN i 101=8000+i:=Uv;have e2:swN i 9101=20000+i:=Xc hi;have c1:w.cs.map (C.ren (swN i))=w.cs:=Cs.GF (HH w);have c2:(rowOf Ar.enc arr).map (fun cs=>cs.map (C.ren (swN i)))=rowOf Ar.enc arr:=Css.GF fun cs hcs c hc=>by
  have h:=AY (enc:=Ar.enc) (l:=arr) (T:=0) (sz:=0);cases hn:c.names with
  |nil=>rfl
  |cons x xs=>
   exfalso;have:x∈(Blk.row 0 0 (rowOf Ar.enc arr)).names:=List.mem_flatMap.2 ⟨cs,hcs,List.mem_flatMap.2 ⟨c,hc,by rw[hn];simp⟩⟩;rw[h] at this;cases this
 show[(swN i 9100,Blk.pin (swN i 100) r0),(swN i 9101,Blk.pin (swN i 101) (R i)),(swN i 100,Blk.box [.d (.int .i64 slot),.d (.int .i64 turns),.d (DK R nn),.d (lds loads),.d (sis sil),.row (swN i 102) arr.length]),(swN i 101,Blk.box (w.cs.map (C.ren (swN i)))),(swN i 102,Blk.row _ 3 ((rowOf Ar.enc arr).map (fun cs=>cs.map (C.ren (swN i)))))]=_;rw[e100,e102,e9100,e1,e2,c1,c2];rfl
theorem Gv {n:Nat} {b:Blk} (hb:As (Px slot turns R nn loads sil arr r0 i w) n=some b):(n=9100/\b=.pin 100 r0)\/(n=20000+i/\b=.pin (8000+i) (R i))\/(n=100/\b=.box (sbC slot turns R nn loads sil arr.length))\/(n=8000+i/\b=.box w.cs)\/(n=102/\b=.row 62 3 (rowOf Ar.enc arr)):=by
 have:=AE hb;simp only[Px,AgD,Agq,or_false,Prod.mk.injEq] at this;exact this
theorem Df {α:Type} {m n:Nat} {x:α} {L:List (Nat×α)} (h:m≠n):As ((m,x) :: L) n=As L n:=by
 have:Nat.beq m n=false:=by
  cases hb:Nat.beq m n with
  |false=>rfl
  |true=>exact absurd (Ag5 hb) h
 show(bif Nat.beq m n then some x else As L n)=As L n;rw[this];rfl
theorem Gl {α:Type} {n:Nat} {x:α} {L:List (Nat×α)}:As ((n,x) :: L) n=some x:=by
 unfold As;rw[Nat.beq_refl];rfl
theorem Fy:As (Px slot turns R nn loads sil arr r0 i w) 9100=some (.pin 100 r0):=by
 unfold Px;exact Gl
theorem Ig:As (Px slot turns R nn loads sil arr r0 i w) (20000+i)=some (.pin (8000+i) (R i)):=by
 unfold Px;refine(Df ?_).trans ?_
 ·omega
 exact Gl
theorem Ih:As (Px slot turns R nn loads sil arr r0 i w) 100=some (.box (sbC slot turns R nn loads sil arr.length)):=by
 unfold Px;refine(Df ?_).trans ?_
 ·omega
 refine(Df ?_).trans ?_
 ·omega
 exact Gl
theorem JP (hi:i<100):As (Px slot turns R nn loads sil arr r0 i w) (8000+i)=some (.box w.cs):=by
 unfold Px;refine(Df ?_).trans ?_
 ·omega
 refine(Df ?_).trans ?_
 ·omega
 refine(Df ?_).trans ?_
 ·omega
 exact Gl
theorem GW:As (Px slot turns R nn loads sil arr r0 i w) 102=some (.row 62 3 (rowOf Ar.enc arr)):=by
 unfold Px;refine(Df ?_).trans ?_
 ·omega
 refine(Df ?_).trans ?_
 ·omega
 refine(Df ?_).trans ?_
 ·omega
 refine(Df ?_).trans ?_
 ·omega
 exact Gl
theorem QV {n:Nat} (h1:n≠9100) (h2:n≠20000+i) (h3:n≠100) (h4:n≠8000+i) (h5:n≠102):As (Px slot turns R nn loads sil arr r0 i w) n=none:=by
 cases h:As (Px slot turns R nn loads sil arr r0 i w) n with
 |none=>rfl
 |some b=>rcases Gv h with⟨e,_⟩|⟨e,_⟩|⟨e,_⟩|⟨e,_⟩|⟨e,_⟩<;>contradiction
set_option maxHeartbeats 1000000 in
theorem HA {g:FuncId} (hO:Pz l FY) (hX:X.length<=64) (hi:i<X.length) (hph:PhG g slot turns (DK R X.length) loads sil arr (X.getD i default) arr' v):WL g slot turns R X.length loads sil r0 l FY i (arr,X) (arr',X.set i v):=by
 intro E a w ρ Im hs;have hf:ET (fxS slot turns R X.length loads sil arr r0++FY):=H6 hO;have hXl:(X.map Wk.cs).length<=100:=by rw[Agz];omega
 have e100:lsS l (fxS slot turns R X.length loads sil arr r0++FY) R X (.b 100)=some (.k (.box (sbC slot turns R X.length loads sil arr.length))):=HX (BI rfl);have e102:lsS l (fxS slot turns R X.length loads sil arr r0++FY) R X (.b 102)=some (.k (.row 62 3 (rowOf Ar.enc arr))):=HX (BI rfl);have e9100:lsS l (fxS slot turns R X.length loads sil arr r0++FY) R X (.b 9100)=some (.k (.pin 100 r0)):=HX (BI rfl);have efam:∀j,j<X.length->lsS l (fxS slot turns R X.length loads sil arr r0++FY) R X (.b (8000+j))=some (.k (.box (X.getD j default).cs)):=fun j hj=>Kn hf hX hj
 have epin:∀j,j<X.length->lsS l (fxS slot turns R X.length loads sil arr r0++FY) R X (.b (20000+j))=some (.k (.pin (8000+j) (R j))):=fun j hj=>LI hf hX hj
 have hr0:ρ 100=r0:=hs.bk 9100 _ e9100;have hRi:ρ (8000+i)=R i:=hs.bk (20000+i) _ (epin i hi);have hF:=FnS.AfW (Z9 (i:=i) (by omega)) (hph (fun n=>if n=100 then r0 else R i)) (args':=[.c (.ptr 100 0),.c (.ptr (8000+i) 0)]) (fun w Im S0 ρ vs h=>by
  cases h with
  |cons h1 h=>
   cases h with
   |cons h2 h=>
    cases h;refine .cons ?_ (.cons ?_ .nil)
    ·have h1:_=pvo (ρ 100).blk 0:=h1;show _=pvo (ρ (swN i 100)).blk 0;rw[h1,Rb (by omega) (by omega) (by omega) (by omega)]
    ·have h2:_=pvo (ρ (8000+i)).blk 0:=h2;show _=pvo (ρ (swN i 101)).blk 0;rw[h2,Uv])
 rw[Rt (arr:=arr) (by omega),Rt (arr:=arr') (by omega)] at hF;have hc:=hs.AdB hF (vs:=[pvo r0.blk 0,pvo (R i).blk 0])
  (fun n b hb=>by
    rcases Gv hb with⟨rfl,rfl⟩|⟨rfl,rfl⟩|⟨rfl,rfl⟩|⟨rfl,rfl⟩|⟨rfl,rfl⟩
    ·exact e9100
    ·exact epin i hi
    ·exact e100
    ·exact efam i hi
    ·exact e102)
  (.cons (by show pvo r0.blk 0=pvo (ρ 100).blk 0;rw[hr0]) (.cons (by show pvo (R i).blk 0=pvo (ρ (8000+i)).blk 0;rw[hRi]) .nil))
  (fun n=>Nat.beq n 102) (fun n h=>by
   have e:=Ag5 h;subst e;exact⟨_,GW⟩)
  (fun n h k it hk hq=>by
    have e:=Ag5 h;subst e;cases hm:it.mentions 102 with
    |false=>rfl
    |true=>
     exfalso;cases k with
     |s t=>
      have hk:(As l t).map Sx.Item.v=some it:=hk;rw[Ag4] at hk;obtain⟨y,hy,rfl⟩:=hk;have h1:=hO.ns _ (AE hy);rcases h1.2 102 (AV.A3 h1.1 hm) with h2|h2
      ·cases h2
      ·obtain⟨q,hq1,hq2⟩:=AgT.1 h2;have:=hO.free q hq1;omega
     |b n=>
      obtain⟨b,hb,rfl⟩:=MK hk;have hno:=hq n rfl;have hmn:=Blk.A3 hm;rcases BE hb with h1|⟨j,hj,rfl,rfl⟩|⟨j,hj,rfl,rfl⟩
      ·rcases E8 hO h1 with⟨rfl,rfl⟩|⟨rfl,rfl⟩|⟨rfl,rfl⟩|⟨h3,h4⟩
       ·rw[Ih] at hno;cases hno
       ·rw[GW] at hno;cases hno
       ·rw[Fy] at hno;cases hno
       ·rw[hO.nb _ (AE h3)] at hmn;cases hmn
      ·rw[Agz] at hj;rw[HG hj] at hmn;obtain⟨c,hc1,hc2⟩:=List.mem_flatMap.1 hmn;rw[HH _ c hc1] at hc2;cases hc2
      ·have:102=8000+j:=by simpa [Blk.names] using hmn
       omega)
  (fun n b hb hl hd=>by
    rcases Gv hb with⟨rfl,rfl⟩|⟨rfl,rfl⟩|⟨rfl,rfl⟩|⟨rfl,rfl⟩|⟨rfl,rfl⟩
    ·cases hl
    ·cases hl
    ·exact⟨9100,r0,Fy,Fy⟩
    ·exact⟨20000+i,R i,Ig,Ig⟩
    ·cases hd)
  (fun n b hb=>by
    rcases Gv hb with⟨rfl,rfl⟩|⟨rfl,rfl⟩|⟨rfl,rfl⟩|⟨rfl,rfl⟩|⟨rfl,rfl⟩
    ·exact⟨_,Fy⟩
    ·exact⟨_,Ig⟩
    ·exact⟨_,Ih⟩
    ·exact⟨_,(JP (by omega))⟩
    ·exact⟨_,GW⟩)
  (fun n b hb=>by
    rcases Gv hb with⟨rfl,rfl⟩|⟨rfl,rfl⟩|⟨rfl,rfl⟩|⟨rfl,rfl⟩|⟨rfl,rfl⟩
    ·refine⟨_,Fy,fun h=>h,fun m hm=>?_⟩;have hm:=Blk.A3 hm;simp only[Blk.names,AgD,Agq,or_false] at hm;subst hm;exact⟨_,Ih,rfl⟩
    ·refine⟨_,Ig,fun h=>h,fun m hm=>?_⟩;have hm:=Blk.A3 hm;simp only[Blk.names,AgD,Agq,or_false] at hm;subst hm;exact⟨_,(JP (by omega)),rfl⟩
    ·refine⟨_,Ih,fun h=>h,fun m hm=>?_⟩;have hm:=Blk.A3 hm;simp only[Blk.names,List.flatMap_cons,List.flatMap_nil,C.names,List.nil_append,AgF,AgD,Agq,or_false] at hm;subst hm;exact⟨_,GW,rfl⟩
    ·refine⟨_,(JP (by omega)),fun h=>h,fun m hm=>?_⟩;have hm:=Blk.A3 hm;exfalso;obtain⟨c,hc1,hc2⟩:=List.mem_flatMap.1 hm;rw[HH _ c hc1] at hc2;cases hc2
    ·refine⟨_,GW,fun h=>h,fun m hm=>?_⟩;have hm:=Blk.A3 hm;rw[AY] at hm;cases hm)
  (τ:=Td (lsS l (fxS slot turns R X.length loads sil arr r0++FY) R X) (Px slot turns R X.length loads sil arr' r0 i v)) (fun _=>rfl) (fun _=>rfl)
 refine hc.mono ?_;rintro e w' ⟨v0,he,ht,ρ2,Im2,h2⟩;refine⟨v0,he,ht,ρ2,Im2,h2.sub (fun k it hk=>?_) (OO hO (by rw[Agy];exact hX))⟩;cases k with
 |s t=>exact hk
 |b n=>
  obtain⟨b,hb,rfl⟩:=MK hk;rcases BE hb with h1|⟨j,hj,rfl,rfl⟩|⟨j,hj,rfl,rfl⟩
  ·rcases E8 hO h1 with⟨rfl,rfl⟩|⟨rfl,rfl⟩|⟨rfl,rfl⟩|⟨h3,h4⟩
   ·exact CO Ih
   ·exact CO GW
   ·exact CO Fy
   ·rw[GH (QV (by omega) (by omega) (by omega) (by omega) (by omega))];exact HX (BI (VN hO h3))
  ·rw[Agz,Agy] at hj;rw[HG (by rw[Agy];exact hj)];by_cases e:i=j
   ·subst e;rw[Rh hj];exact CO (JP (by omega))
   ·rw[HM e,GH (QV (by omega) (by omega) (by omega) (by omega) (by omega))];exact efam j hj
  ·rw[Agz,Agy] at hj;by_cases e:i=j
   ·subst e;exact CO Ig
   ·rw[GH (QV (by omega) (by omega) (by omega) (by omega) (by omega))];exact epin j hj
end
end Go.Proofs.M
end
section
namespace Go.Proofs.M
open Go Go.Sx Go.Proofs Go.Proofs.T Go.Proofs.Q
open Go.Proofs.P (Nb nbs Rk rkA rkErr checkNb hearM countM forgetM select')
open Go.Proofs.R (startM advM)
set_option maxRecDepth 4000
attribute [local irreducible] VR VC thenQ blockQ retL
def Ps (l:List Pk) (o n:Int) (k:Nat):List Pk:=(l.take k).map (Eg o n)++l.drop k
theorem Xs (l:List Pk) (o n:Int) (k:Nat):(Ps l o n k).length=l.length:=by
 unfold Ps;rw[Agn,Agz,Ags,Agv];omega
theorem Rv {l:List Pk} {o n:Int} {k:Nat} (hk:k<l.length):(Ps l o n k).getD k default=l.getD k default:=by
 unfold Ps;rw[Agi,List.getElem?_append_right (by rw[Agz,Ags];omega),Agz,Ags,List.getElem?_drop,Agi]
 congr 2;omega
theorem Ru {l:List Pk} {o n:Int} {k:Nat} (hk:k<l.length):(Ps l o n k).set k (Eg o n (l.getD k default))=Ps l o n (k+1):=by
 have h1:((l.take k).map (Eg o n)).length=k:=by rw[Agz,Ags];omega
 have h2:l.drop k=l.getD k default :: l.drop (k+1):=by
  rw[List.drop_eq_getElem_cons hk,Agi,Agr hk];rfl
 unfold Ps;rw[h2,List.set_append_right _ _ (by omega),h1,Nat.sub_self,List.set_cons_zero,Ce hk,Ag8,AgE]
 rfl
theorem UQ {l:List Pk} {o n:Int} {k:Nat} (hk:k<l.length) (h:(l.getD k default).to≠o):Ps l o n (k+1)=Ps l o n k:=by
 have e:Eg o n (l.getD k default)=l.getD k default:=AgY h;rw[<-Ru hk,e];have:=Rv (o:=o) (n:=n) hk;refine List.ext_getElem (by simp) fun i h1 h2=>?_
 rw[List.getElem_set]
 split
 ·rename_i hi;subst hi;rw[<-this,Agi,Agr h2];rfl
 ·rfl
theorem UP (l:List Pk) (o n:Int):Ps l o n 0=l:=by simp[Ps]
theorem Xt {l:List Pk} {o n:Int} {k:Nat} (h:l.length<=k):Ps l o n k=l.map (Eg o n):=by
 unfold Ps;rw[AgP h,List.drop_eq_nil_of_le h,AgF]
set_option maxHeartbeats 8000000 in
theorem N3 (slot turns:Int) (nv:D) (loads:List Ld) (sil:List Si) (arr:List Ar) (w:Wk) (hq:w.nd.st.qu.Af.length<=100000):PhS 94 slot turns nv loads sil arr w (KG slot arr w).2:=by
 have hf:=P.Qy w.nd.nb slot 256;have hse:=P.PR (forgetM w.nd.nb slot 256) w.nd.rk 64;have hcl:=GU w.nd.st.qu.Af (by omega);intro r;simp only[Cg,List.map_cons,List.map_nil,List.cons_append,List.nil_append,Nat.reduceAdd];refine FnS.XC (enters_of Tryz.func94 (by kernel_rfl) rfl) Tryz.func94 rfl Tryz.ntmps94 Tryz.results94 rfl (by first|rfl|(simp only[A0,wfL,AH,wfs,Ae,Ad];rfl)) rfl rfl rfl (by intro p hp;simp only[AgD,Agq,or_false] at hp;rcases hp with rfl|rfl|rfl|rfl|rfl|rfl<;>rfl) fun E hO=>?_
 refine AJ ?_;show VC E _ (retL E (Hr Tryz.prog _ _ [(9100,.pin 100 (r 100)),(9101,.pin 101 (r 101)),(9102,.pin 102 (r 102)),(100,.box [.d (.int .i64 slot),.d (.int .i64 turns),.d nv,.d (lds loads),.d (sis sil),.row 102 arr.length]),(101,.box (Wk.cs ⟨DT slot w.nd,w.node,w.ac,w.bc,w.rs,w.up⟩)),(102,.row 62 3 (rowOf Ar.enc arr))])) _;unfold DT;generalize forgetM w.nd.nb slot 256=NB at *;generalize select' NB w.nd.rk 64=SE at *;obtain⟨rk2,ch,er⟩:=SE;dsimp only at hse ⊢;by_cases h1:er=0
 ·have d1:decide (er≠0)=false:=Agk (by simpa using h1);rw[AgY (by simpa using h1)];have one:ch=false\/rk2.parent<0\/w.nd.rk.parent<0->(if ch=false\/rk2.parent<0\/w.nd.rk.parent<0 then({w.nd with nb:=NB,rk:=rk2}:MN) else{w.nd with nb:=NB,rk:=rk2,st:={w.nd.st with qu:=⟨w.nd.st.qu.Bk,w.nd.st.qu.Af.map (Eg w.nd.rk.parent rk2.parent)⟩}})=⟨w.nd.st,rk2,NB,w.nd.next⟩:=fun h=>AgZ h
  cases ch with
  |false=>
   have d2:(!false)=true:=rfl;rw[one (.inl rfl)]
   repeat'(first|refine sB ?_|refine Ak rfl (by exact tt0) ?_|(refine gC ?_;first|refine Aa (hf) (gk rfl) rfl rfl rfl (by rfl) rfl (by rfl) rfl ?_|refine Aa (hse) (gk rfl) rfl rfl rfl (by rfl) rfl (by rfl) rfl ?_)|(refine gN ?_;first|refine Aj (gk rfl) rfl rfl ?_)|refine Ap (by kernel_rfl) ?_|(refine gD ?_;first|refine Ai rfl ?_|refine Ah rfl ?_|refine At rfl (by assumption) ?_)|fail)
   refine Ao (Am (l:=[]) (b:=[(9100,.pin 100 (r 100)),(9101,.pin 101 (r 101)),(9102,.pin 102 (r 102)),(100,.box [.d (.int .i64 slot),.d (.int .i64 turns),.d nv,.d (lds loads),.d (sis sil),.row 102 arr.length]),(101,.box (Wk.cs ⟨⟨w.nd.st,rk2,NB,w.nd.next⟩,w.node,w.ac,w.bc,w.rs,w.up⟩)),(102,.row 62 3 (rowOf Ar.enc arr))]) (fun n=>n) ?_ ?_ rfl (by(simp only[wfL,wfs,Ae,Ad];rfl))) (DG Ab .nil rfl (by repeat'(first|exact tt0|refine⟨rfl,?_⟩)))
   all_goals repeat'(first|exact tt0|refine⟨⟨_,rfl,?_⟩,?_⟩|exact .Bs rfl rfl|exact .pin rfl|exact .Bc rfl Ag|refine .box ?_|exact .nil|refine .cons ?_ ?_|exact .d|exact .row rfl rfl|fail)
  |true=>
   have d2:(!true)=false:=rfl;by_cases h3:rk2.parent<0
   ·have d3:decide (rk2.parent<0)=true:=Agj h3;rw[one (.inr (.inl h3))]
    repeat'(first|refine sB ?_|refine Ak rfl (by exact tt0) ?_|(refine gC ?_;first|refine Aa (hf) (gk rfl) rfl rfl rfl (by rfl) rfl (by rfl) rfl ?_|refine Aa (hse) (gk rfl) rfl rfl rfl (by rfl) rfl (by rfl) rfl ?_)|(refine gN ?_;first|refine Aj (gk rfl) rfl rfl ?_)|refine Az rfl (by assumption) ?_|refine Ap (by kernel_rfl) ?_|(refine gD ?_;first|refine Ai rfl ?_|refine Ah rfl ?_|refine At rfl (by assumption) ?_)|fail)
    refine Ao (Am (l:=[]) (b:=[(9100,.pin 100 (r 100)),(9101,.pin 101 (r 101)),(9102,.pin 102 (r 102)),(100,.box [.d (.int .i64 slot),.d (.int .i64 turns),.d nv,.d (lds loads),.d (sis sil),.row 102 arr.length]),(101,.box (Wk.cs ⟨⟨w.nd.st,rk2,NB,w.nd.next⟩,w.node,w.ac,w.bc,w.rs,w.up⟩)),(102,.row 62 3 (rowOf Ar.enc arr))]) (fun n=>n) ?_ ?_ rfl (by(simp only[wfL,wfs,Ae,Ad];rfl))) (DG Ab .nil rfl (by repeat'(first|exact tt0|refine⟨rfl,?_⟩)))
    all_goals repeat'(first|exact tt0|refine⟨⟨_,rfl,?_⟩,?_⟩|exact .Bs rfl rfl|exact .pin rfl|exact .Bc rfl Ag|refine .box ?_|exact .nil|refine .cons ?_ ?_|exact .d|exact .row rfl rfl|fail)
   ·have d3:decide (rk2.parent<0)=false:=Agk h3;by_cases h4:w.nd.rk.parent<0
    ·have d4:decide (w.nd.rk.parent<0)=true:=Agj h4;rw[one (.inr (.inr h4))]
     repeat'(first|refine sB ?_|refine Ak rfl (by exact tt0) ?_|(refine gC ?_;first|refine Aa (hf) (gk rfl) rfl rfl rfl (by rfl) rfl (by rfl) rfl ?_|refine Aa (hse) (gk rfl) rfl rfl rfl (by rfl) rfl (by rfl) rfl ?_)|(refine gN ?_;first|refine Aj (gk rfl) rfl rfl ?_)|refine Az rfl (by assumption) ?_|refine Ap (by kernel_rfl) ?_|(refine gD ?_;first|refine Ai rfl ?_|refine Ah rfl ?_|refine At rfl (by assumption) ?_)|fail)
     refine Ao (Am (l:=[]) (b:=[(9100,.pin 100 (r 100)),(9101,.pin 101 (r 101)),(9102,.pin 102 (r 102)),(100,.box [.d (.int .i64 slot),.d (.int .i64 turns),.d nv,.d (lds loads),.d (sis sil),.row 102 arr.length]),(101,.box (Wk.cs ⟨⟨w.nd.st,rk2,NB,w.nd.next⟩,w.node,w.ac,w.bc,w.rs,w.up⟩)),(102,.row 62 3 (rowOf Ar.enc arr))]) (fun n=>n) ?_ ?_ rfl (by(simp only[wfL,wfs,Ae,Ad];rfl))) (DG Ab .nil rfl (by repeat'(first|exact tt0|refine⟨rfl,?_⟩)))
     all_goals repeat'(first|exact tt0|refine⟨⟨_,rfl,?_⟩,?_⟩|exact .Bs rfl rfl|exact .pin rfl|exact .Bc rfl Ag|refine .box ?_|exact .nil|refine .cons ?_ ?_|exact .d|exact .row rfl rfl|fail)
    ·have d4:decide (w.nd.rk.parent<0)=false:=Agk h4;have two:(if true=false\/rk2.parent<0\/w.nd.rk.parent<0 then({w.nd with nb:=NB,rk:=rk2}:MN) else{w.nd with nb:=NB,rk:=rk2,st:={w.nd.st with qu:=⟨w.nd.st.qu.Bk,w.nd.st.qu.Af.map (Eg w.nd.rk.parent rk2.parent)⟩}})=
      ⟨⟨w.nd.st.tb,⟨w.nd.st.qu.Bk,w.nd.st.qu.Af.map (Eg w.nd.rk.parent rk2.parent)⟩,w.nd.st.held,w.nd.st.seen,w.nd.st.list,w.nd.st.seq,w.nd.st.Bl,w.nd.st.tries,w.nd.st.back,w.nd.st.wait,w.nd.st.CY⟩,rk2,NB,w.nd.next⟩:=AgY (by rintro(h|h|h);cases h;exact h3 h;exact h4 h)
     rw[two]
     repeat'(first|refine sR ?_|refine Ak rfl (by exact tt0) ?_|(refine gC ?_;first|refine Aa (hf) (gk rfl) rfl rfl rfl (by rfl) rfl (by rfl) rfl ?_|refine Aa (hse) (gk rfl) rfl rfl rfl (by rfl) rfl (by rfl) rfl ?_)|(refine gN ?_;first|refine Aj (gk rfl) rfl rfl ?_)|refine Az rfl (by assumption) ?_|refine Ap (by kernel_rfl) ?_|refine sq 6 rfl ?_|(refine gD ?_;first|refine Ah rfl ?_|refine At rfl (by assumption) ?_)|fail)
     repeat'(first|refine sR ?_|refine Ak rfl (by exact tt0) ?_|(refine gC ?_;first|refine Aa (hcl) (gk rfl) rfl rfl rfl (by(simp only[A0,wfL,AH,wfs,Ae,Ad];rfl)) rfl (by exact Bx) rfl ?_)|(refine gN ?_;first|refine Aj (gk rfl) rfl rfl ?_)|refine sq 7 rfl ?_|fail)
     refine VC.le (σ':=AS [(0,.c (.ptr 100 0)),(1,.c (.ptr 101 0)),(4,AI w.nd.rk.parent),(5,.c (.ptr 5 0))] [(9100,.pin 100 (r 100)),(9101,.pin 101 (r 101)),(9102,.pin 102 (r 102)),(100,.box [.d (.int .i64 slot),.d (.int .i64 turns),.d nv,.d (lds loads),.d (sis sil),.row 102 arr.length]),(101,.box [.d (.int .i64 w.nd.st.tb.node),.d (.int .i64 w.nd.st.tb.len),.d (tcs w.nd.st.tb.cells),.d (.int .i64 w.nd.st.qu.Bk),.row 104 w.nd.st.qu.Af.length,.d (hds w.nd.st.held),.d (sns w.nd.st.seen),.d (.int .i64 w.nd.st.list),.d (.int .i64 w.nd.st.seq),.d (.int .i64 w.nd.st.Bl),.d (.int .i64 w.nd.st.tries),.d (.int .i64 w.nd.st.back),.d (.int .i64 w.nd.st.wait),.d (.int .i64 w.nd.st.CY),.d (.int .i64 rk2.node),.d (.int .i64 rk2.epoch),.d (.int .i64 rk2.parent),.d (.int .i64 rk2.heard),.d (.int .i64 rk2.rank),.d (.int .i64 rk2.least),.d (nbs NB),.d (.int .i64 w.nd.next),.d (.int .i64 w.node),.d (.int .i64 w.ac.kind),.d (.int .i64 w.ac.offset),.d (.int .i64 w.ac.BF),.d (.int .i64 w.ac.source),.d (.int .i64 w.ac.target),.d (.int .i64 w.ac.list),.d (.int .i64 w.ac.seq),.d (.int .i64 w.ac.Cb),.d (.int .i64 w.ac.number),.d (.int .i64 w.ac.err),.d (.int .i64 w.ac.slot),.d (.int .i64 w.ac.rank),.d (.int .i64 w.ac.epoch),.d (.str w.ac.data),.d (.bool w.bc),.d (.bool w.rs.AT),.d (.bool w.rs.heard),.d (.int .i64 w.rs.BF),.d (.int .i64 w.rs.source),.d (.int .i64 w.rs.target),.d (.int .i64 w.rs.list),.d (.int .i64 w.rs.seq),.d (.int .i64 w.rs.Cb),.d (.int .i64 w.rs.number),.d (.int .i64 w.rs.err),.d (.int .i64 w.rs.slot),.d (.int .i64 w.rs.rank),.d (.int .i64 w.rs.epoch),.d (.str w.rs.data),.d (.int .i64 w.rs.error),.d (.bool w.up.some),.d (.bool w.up.new),.d (.int .i64 w.up.BF),.d (.int .i64 w.up.source),.d (.int .i64 w.up.target),.d (.int .i64 w.up.list),.d (.int .i64 w.up.seq),.d (.int .i64 w.up.Cb),.d (.int .i64 w.up.number),.d (.int .i64 w.up.err),.d (.int .i64 w.up.slot),.d (.int .i64 w.up.rank),.d (.int .i64 w.up.epoch),.d (.str w.up.data)]),(102,.row 62 3 (rowOf Ar.enc arr)),(5,.box rk2.cs),(104,.row 120 6 (rowOf Pk.enc w.nd.st.qu.Af))]) ?_ ?_
     ·refine Am (fun n=>if n=104 then 71007 else n) ?_ ?_ rfl (by(simp only[wfL,wfs,Ae,Ad];rfl))
      all_goals repeat'(first|exact tt0|refine⟨⟨_,rfl,?_⟩,?_⟩|exact .c .d|exact .c (.ptr rfl)|exact .Bs rfl rfl|exact .pin rfl|exact .Bc rfl Ag|refine .box ?_|exact .nil|refine .cons ?_ ?_|exact .d|exact .row rfl rfl|fail)
     repeat'(first|refine sR ?_|refine Ak rfl (by exact tt0) ?_|(refine gE ?_;first|refine BB (gk rfl) rfl rfl (by exact Al.symm) rfl rfl ?_)|(refine gN ?_;first|refine Aj (gk rfl) rfl rfl ?_)|(show VC _ (.seq (.region _ _ _) _) _ _;refine BC ?_)|refine B0 ?_|fail)
     refine AK (ι:=Nat) (fun k=>AS [(1,.c (.ptr 101 0)),(4,AI w.nd.rk.parent),(5,.c (.ptr 5 0)),(84,AI w.nd.st.qu.Af.length),(85,AI k)] [(9100,.pin 100 (r 100)),(9101,.pin 101 (r 101)),(9102,.pin 102 (r 102)),(100,.box [.d (.int .i64 slot),.d (.int .i64 turns),.d nv,.d (lds loads),.d (sis sil),.row 102 arr.length]),(101,.box [.d (.int .i64 w.nd.st.tb.node),.d (.int .i64 w.nd.st.tb.len),.d (tcs w.nd.st.tb.cells),.d (.int .i64 w.nd.st.qu.Bk),.row 104 w.nd.st.qu.Af.length,.d (hds w.nd.st.held),.d (sns w.nd.st.seen),.d (.int .i64 w.nd.st.list),.d (.int .i64 w.nd.st.seq),.d (.int .i64 w.nd.st.Bl),.d (.int .i64 w.nd.st.tries),.d (.int .i64 w.nd.st.back),.d (.int .i64 w.nd.st.wait),.d (.int .i64 w.nd.st.CY),.d (.int .i64 rk2.node),.d (.int .i64 rk2.epoch),.d (.int .i64 rk2.parent),.d (.int .i64 rk2.heard),.d (.int .i64 rk2.rank),.d (.int .i64 rk2.least),.d (nbs NB),.d (.int .i64 w.nd.next),.d (.int .i64 w.node),.d (.int .i64 w.ac.kind),.d (.int .i64 w.ac.offset),.d (.int .i64 w.ac.BF),.d (.int .i64 w.ac.source),.d (.int .i64 w.ac.target),.d (.int .i64 w.ac.list),.d (.int .i64 w.ac.seq),.d (.int .i64 w.ac.Cb),.d (.int .i64 w.ac.number),.d (.int .i64 w.ac.err),.d (.int .i64 w.ac.slot),.d (.int .i64 w.ac.rank),.d (.int .i64 w.ac.epoch),.d (.str w.ac.data),.d (.bool w.bc),.d (.bool w.rs.AT),.d (.bool w.rs.heard),.d (.int .i64 w.rs.BF),.d (.int .i64 w.rs.source),.d (.int .i64 w.rs.target),.d (.int .i64 w.rs.list),.d (.int .i64 w.rs.seq),.d (.int .i64 w.rs.Cb),.d (.int .i64 w.rs.number),.d (.int .i64 w.rs.err),.d (.int .i64 w.rs.slot),.d (.int .i64 w.rs.rank),.d (.int .i64 w.rs.epoch),.d (.str w.rs.data),.d (.int .i64 w.rs.error),.d (.bool w.up.some),.d (.bool w.up.new),.d (.int .i64 w.up.BF),.d (.int .i64 w.up.source),.d (.int .i64 w.up.target),.d (.int .i64 w.up.list),.d (.int .i64 w.up.seq),.d (.int .i64 w.up.Cb),.d (.int .i64 w.up.number),.d (.int .i64 w.up.err),.d (.int .i64 w.up.slot),.d (.int .i64 w.up.rank),.d (.int .i64 w.up.epoch),.d (.str w.up.data)]),(102,.row 62 3 (rowOf Ar.enc arr)),(5,.box rk2.cs),(104,.row 120 6 (rowOf Pk.enc (Ps w.nd.st.qu.Af w.nd.rk.parent rk2.parent k)))])
      (fun k=>k<=w.nd.st.qu.Af.length) (fun k=>w.nd.st.qu.Af.length-k) 0 (Ag1 _) ?_ ?_
     ·rw[UP];refine Am (fun n=>n) ?_ ?_ rfl (by(simp only[wfL,wfs,Ae,Ad];rfl))
      all_goals repeat'(first|exact tt0|refine⟨⟨_,rfl,?_⟩,?_⟩|exact .c .d|exact .c (.ptr rfl)|exact .Bs rfl rfl|exact .pin rfl|exact .Bc rfl Ag|refine .box ?_|exact .nil|refine .cons ?_ ?_|exact .d|exact .row rfl rfl|fail)
     ·intro k hk;have hrl:=Xs w.nd.st.qu.Af w.nd.rk.parent rk2.parent k;by_cases hc:k<w.nd.st.qu.Af.length
      ·have hdd:decide ((k:Int)<(w.nd.st.qu.Af.length:Int))=true:=Agj (by omega);have hg:=Rv (o:=w.nd.rk.parent) (n:=rk2.parent) hc;by_cases h5:(w.nd.st.qu.Af.getD k default).to=w.nd.rk.parent
       ·have d5:decide ((w.nd.st.qu.Af.getD k default).to=w.nd.rk.parent)=true:=Agj h5;have hs:=Ru (o:=w.nd.rk.parent) (n:=rk2.parent) hc;have er:Eg w.nd.rk.parent rk2.parent (w.nd.st.qu.Af.getD k default)={w.nd.st.qu.Af.getD k default with to:=rk2.parent}:=AgZ h5;rw[<-hg] at d5 er
        repeat'(first|refine sC ?_|refine Ak rfl (by first|exact tt0|omega) ?_|(refine gI ?_;first|refine BG (gk rfl) rfl rfl rfl rfl rfl rfl (by omega) (by omega) rfl ?_)|(refine gN ?_;first|refine D6 (gk rfl) rfl rfl ?_|refine Aj (gk rfl) rfl rfl ?_)|(refine gL ?_;first|refine Co (gk rfl) rfl rfl (by omega) rfl rfl rfl ?_)|(refine gS ?_;first|refine By (gk rfl) rfl rfl rfl (by omega) rfl rfl rfl ?_)|(refine gD ?_;first|refine Ai rfl ?_|refine At rfl (by assumption) ?_)|fail)
        refine⟨k+1,by omega,by omega,?_⟩;rw[<-hs,<-hg,er];generalize Ps w.nd.st.qu.Af w.nd.rk.parent rk2.parent k=m at *;refine Am (fun n=>n) ?_ ?_ rfl (by simp only[wfL,wfs];rfl)
        all_goals repeat'(first|exact tt0|refine⟨⟨_,rfl,?_⟩,?_⟩|exact .c .d|exact .c (.ptr rfl)|exact .pin rfl|exact .Bc rfl Ag|exact .Bc (DJ rfl) Ag|refine .box ?_|exact .nil|refine .cons ?_ ?_|exact .d|exact .row rfl rfl|fail)
       ·have d5:decide ((w.nd.st.qu.Af.getD k default).to=w.nd.rk.parent)=false:=Agk h5;have hs:=UQ (o:=w.nd.rk.parent) (n:=rk2.parent) hc h5;rw[<-hg] at d5
        repeat'(first|refine sC ?_|refine Ak rfl (by first|exact tt0|omega) ?_|(refine gI ?_;first|refine BG (gk rfl) rfl rfl rfl rfl rfl rfl (by omega) (by omega) rfl ?_)|(refine gN ?_;first|refine D6 (gk rfl) rfl rfl ?_|refine Aj (gk rfl) rfl rfl ?_)|(refine gL ?_;first|refine Co (gk rfl) rfl rfl (by omega) rfl rfl rfl ?_)|(refine gD ?_;first|refine Ai rfl ?_|refine Ah rfl ?_|refine At rfl (by assumption) ?_)|fail)
        refine⟨k+1,by omega,by omega,?_⟩;rw[hs];refine Am (fun n=>n) ?_ ?_ rfl (by(simp only[wfL,wfs,Ae,Ad];rfl))
        all_goals repeat'(first|exact tt0|refine⟨⟨_,rfl,?_⟩,?_⟩|exact .c .d|exact .c (.ptr rfl)|exact .Bs rfl rfl|exact .pin rfl|exact .Bc rfl Ag|refine .box ?_|exact .nil|refine .cons ?_ ?_|exact .d|exact .row rfl rfl|fail)
      ·have hdd:decide ((k:Int)<(w.nd.st.qu.Af.length:Int))=false:=Agk (by omega);have e:Ps w.nd.st.qu.Af w.nd.rk.parent rk2.parent k=w.nd.st.qu.Af.map (Eg w.nd.rk.parent rk2.parent):=Xt (by omega);rw[e] at hrl ⊢;generalize w.nd.st.qu.Af.map (Eg w.nd.rk.parent rk2.parent)=m at *
       repeat'(first|refine sB ?_|refine Ak rfl (by exact tt0) ?_|(refine gD ?_;first|refine Ah rfl ?_|refine At rfl (by assumption) ?_)|fail)
       refine Ao (AaF (l:=[]) (b:=[(9100,.pin 100 (r 100)),(9101,.pin 101 (r 101)),(9102,.pin 102 (r 102)),(100,.box [.d (.int .i64 slot),.d (.int .i64 turns),.d nv,.d (lds loads),.d (sis sil),.row 102 arr.length]),(101,.box (Wk.cs ⟨⟨⟨w.nd.st.tb,⟨w.nd.st.qu.Bk,m⟩,w.nd.st.held,w.nd.st.seen,w.nd.st.list,w.nd.st.seq,w.nd.st.Bl,w.nd.st.tries,w.nd.st.back,w.nd.st.wait,w.nd.st.CY⟩,rk2,NB,w.nd.next⟩,w.node,w.ac,w.bc,w.rs,w.up⟩)),(102,.row 62 3 (rowOf Ar.enc arr))]) (fun n=>n) [104] hO (by intro p hp n r e;simp only[AgD,Agq,or_false] at hp;rcases hp with rfl|rfl|rfl|rfl|rfl|rfl<;>first|(cases e;exact⟨rfl,⟨_,rfl,rfl⟩,by simp⟩)|cases e) ?_ ?_ rfl (by(simp only[wfL,wfs,Ae,Ad];rfl))) (DG BQ .nil rfl (by repeat'(first|exact tt0|refine⟨rfl,?_⟩)))
       all_goals repeat'(first|exact tt0|refine⟨⟨_,rfl,?_⟩,?_⟩|exact .pin rfl|exact .Bc rfl Ag|refine .box ?_|exact .nil|refine .cons ?_ ?_|exact .d|exact .row rfl rfl|(refine .Cd (by(simp;done)) rfl ?_ (fun _=>rfl);((try dsimp only);first|omega);done)|fail)
 ·have d1:decide (er≠0)=true:=Agj h1;rw[AgZ h1]
  repeat'(first|refine sB ?_|refine Ak rfl (by exact tt0) ?_|(refine gC ?_;first|refine Aa (hf) (gk rfl) rfl rfl rfl (by rfl) rfl (by rfl) rfl ?_|refine Aa (hse) (gk rfl) rfl rfl rfl (by rfl) rfl (by rfl) rfl ?_)|(refine gN ?_;first|refine Aj (gk rfl) rfl rfl ?_)|refine Ap (by kernel_rfl) ?_|(refine gD ?_;first|refine Ai rfl ?_|refine At rfl (by assumption) ?_)|fail)
  refine Ao (Am (l:=[]) (b:=[(9100,.pin 100 (r 100)),(9101,.pin 101 (r 101)),(9102,.pin 102 (r 102)),(100,.box [.d (.int .i64 slot),.d (.int .i64 turns),.d nv,.d (lds loads),.d (sis sil),.row 102 arr.length]),(101,.box (Wk.cs ⟨⟨w.nd.st,w.nd.rk,NB,w.nd.next⟩,w.node,w.ac,w.bc,w.rs,w.up⟩)),(102,.row 62 3 (rowOf Ar.enc arr))]) (fun n=>n) ?_ ?_ rfl (by(simp only[wfL,wfs,Ae,Ad];rfl))) (DG Ab .nil rfl (by repeat'(first|exact tt0|refine⟨rfl,?_⟩)))
  all_goals repeat'(first|exact tt0|refine⟨⟨_,rfl,?_⟩,?_⟩|exact .Bs rfl rfl|exact .pin rfl|exact .Bc rfl Ag|refine .box ?_|exact .nil|refine .cons ?_ ?_|exact .d|exact .row rfl rfl|fail)
end Go.Proofs.M
end
section
namespace Go.Proofs
open Go Go.Sx Go.Proofs.T Go.Proofs.Q
set_option maxRecDepth 4000
attribute [local irreducible] VR VC thenQ blockQ retL
theorem UJ (a:Int):FnS Tryz.prog 287 [AI a] [] (AB false) []:=by
 refine fb Tryz.func287 (by kernel_rfl) rfl Tryz.ntmps287 Tryz.results287 rfl rfl rfl rfl fun E hS=>?_
 repeat'(first|refine sB ?_|refine Ak rfl (by exact tt0) ?_|fail)
 all_goals(refine Aw Ab rfl ?_;simp)
theorem Vj (a b:Int):FnS Tryz.prog 286 [AI a,AI b] [] (AB (decide (a<b))) []:=by
 refine fb Tryz.func286 (by kernel_rfl) rfl Tryz.ntmps286 Tryz.results286 rfl rfl rfl rfl fun E hS=>?_
 repeat'(first|refine sB ?_|refine Ak rfl (by exact tt0) ?_|(refine gC ?_;first|refine Aa (GM _) (gk rfl) rfl rfl rfl (by rfl) rfl (by exact Av) rfl ?_)|fail)
 all_goals exact Aw Ab rfl rfl
theorem NT (l:List Int) (y:Int) (hl:l.length<=1000000):FnS Tryz.prog 238 [AD (ints l),AI y] [] (.tup [AI (bsK id l y),AB (fdK id l y)]) []:=by
 refine fb Tryz.func238 (by kernel_rfl) rfl Tryz.ntmps238 Tryz.results238 rfl rfl rfl rfl fun E hS=>?_
 repeat'(first|refine sC ?_|refine Ak rfl (by exact tt0) ?_|fail)
 refine AK (ι:=Nat×Nat) (fun p=>AS [(0,AD (ints l)),(1,AI y),(6,AI l.length),(7,AI p.1),(8,AI p.2)] [])
  (fun p=>p.1<=p.2/\p.2<=l.length/\bs (fun i=>decide (id (l.getD i default)<y)) p.1 p.2=bsK id l y) (fun p=>p.2-p.1) (0,l.length) ⟨Ag1 _,Ag0 _,rfl⟩ ?_ ?_
 ·refine lg ?_ ?_ rfl (by rfl)
  all_goals repeat'(first|exact tt0|refine⟨⟨_,rfl,?_⟩,?_⟩|exact .c .d|fail)
 ·rintro⟨i,j⟩ ⟨h1,h2,h3⟩;dsimp only at h1 h2 h3 ⊢;rcases Ag2 i j with hij|hij
  ·have d0:decide ((i:Int)<(j:Int))=true:=Agj (by omega)
   repeat'(first|refine sC ?_|refine Ak rfl (by first|exact tt0|omega) ?_|(refine gC ?_;first|refine Aa (Vj _ _) (gk rfl) rfl rfl rfl (by rfl) rfl (by exact Av) rfl ?_)|(refine gI ?_;first|refine DA (gk rfl) rfl rfl rfl rfl (by omega) rfl ?_)|(refine gV ?_;first|refine A4 (gk rfl) rfl ⟨_,rfl⟩ rfl (by first|exact wrap_i64 (by omega)|exact wrap_u64 (by omega)) rfl ?_)|(refine gB ?_;first|refine Nu (m:=1) (gk rfl) rfl rfl rfl (by decide) rfl ?_)|(refine gD ?_;first|refine Ai rfl ?_|refine At rfl (by assumption) ?_|(refine Ay rfl ?_ ?_<;>intro h<;>have hq:=h<;>(try simp only[hqs] at hq)))|fail)
   ·have e:(((i:Int)+(j:Int))/2^1).toNat=(i+j)/2:=by omega
    rw[e] at hq;refine⟨((i+j)/2+1,j),⟨by dsimp only;omega,h2,?_⟩,by dsimp only;omega,?_⟩
    ·rw[<-h3]
     conv=>rhs;rw[bs,AgZ (by omega)]
     rw[AgZ];exact Agj hq
    ·dsimp only;refine lg ?_ ?_ rfl (by rfl)
     all_goals repeat'(first|exact tt0|refine⟨⟨_,rfl,?_⟩,?_⟩|exact .c .d|fail)
   ·have e:(((i:Int)+(j:Int))/2^1).toNat=(i+j)/2:=by omega
    rw[e] at hq;refine⟨(i,(i+j)/2),⟨by dsimp only;omega,by dsimp only;omega,?_⟩,by dsimp only;omega,?_⟩
    ·rw[<-h3]
     conv=>rhs;rw[bs,AgZ (by omega)]
     rw[AgY];rw[Agl];exact Int.not_lt.2 hq
    ·dsimp only;refine lg ?_ ?_ rfl (by rfl)
     all_goals repeat'(first|exact tt0|refine⟨⟨_,rfl,?_⟩,?_⟩|exact .c .d|fail)
  ·have d0:decide ((i:Int)<(j:Int))=false:=Agk (by omega);have e0:bsK id l y=i:=by rw[<-h3,bs,AgY (by omega)]
   rcases Ag2 i l.length with hil|hil
   ·have d1:decide ((i:Int)<(l.length:Int))=true:=Agj (by omega);by_cases he:l.getD i default=y
    ·have d2:decide (l.getD i default=y)=true:=Agj he
     repeat'(first|refine sB ?_|refine Ak rfl (by exact tt0) ?_|(refine gI ?_;first|refine Au (gk rfl) rfl rfl rfl rfl rfl (by omega) rfl ?_)|refine Az rfl (by assumption) ?_|(refine gD ?_;first|refine Ah rfl ?_|refine At rfl (by assumption) ?_)|fail)
     refine CA Ab rfl rfl (by rw[e0]) (congrArg D.bool ?_);rw[fdK,e0,Agj (p:=i<l.length) hil,Bool.true_and];exact Agj he
    ·have d2:decide (l.getD i default=y)=false:=Agk he
     repeat'(first|refine sB ?_|refine Ak rfl (by exact tt0) ?_|(refine gC ?_;first|refine Aa (UJ _) (gk rfl) rfl rfl rfl (by rfl) rfl (by exact Av) rfl ?_)|(refine gI ?_;first|refine Au (gk rfl) rfl rfl rfl rfl rfl (by omega) rfl ?_)|refine Az rfl (by assumption) ?_|(refine gD ?_;first|refine Ah rfl ?_|refine At rfl (by assumption) ?_)|fail)
     refine CA Ab rfl rfl (by rw[e0]) (congrArg D.bool ?_);rw[fdK,e0,Agj (p:=i<l.length) hil,Bool.true_and];exact Agk he
   ·have d1:decide ((i:Int)<(l.length:Int))=false:=Agk (by omega)
    repeat'(first|refine sB ?_|refine Ak rfl (by exact tt0) ?_|refine Az rfl (by assumption) ?_|(refine gD ?_;first|refine Ah rfl ?_|refine At rfl (by assumption) ?_)|fail)
    refine CA Ab rfl rfl (by rw[e0]) (congrArg D.bool ?_);rw[fdK,e0,Agk (p:=i<l.length) (by omega)];rfl
instance AfX:Overlaps Tryz.prog 288:=
 ⟨51,4,3,1,AM.slice Tryz.YH rfl,fun w=>AM.Bh Tryz.Zy w,fun args w=>run_callFunc_extern Tryz.func288 (by kernel_rfl) (by kernel_rfl) (by kernel_rfl) (by kernel_rfl) args w⟩
abbrev I1 (x:Fz):D:=.rd 1 1 fun _ j=>(Fz.enc x).getD j .Db
theorem OC (l:List Fz) (i:Nat) (x:Fz):rowOf Fz.enc (Bq l i x)=List.take i (rowOf Fz.enc l)++(Fz.enc x).map C.d :: List.drop i (rowOf Fz.enc l):=by
 rw[Bq,AZ,CN,EA]
 rfl
theorem XN (l:List Fz) (i:Nat) (x:Fz) (hl:l.length<=100000) (hi:i<=l.length):FnS Tryz.prog 239 [.c (.row 0 l.length),AI i,AD (I1 x)] [(0,.row 3 1 (rowOf Fz.enc l))]
  (.c (.row 1 (l.length+1))) [(1,.row 3 1 (rowOf Fz.enc (Bq l i x)))]:=by
 refine FnS.Bw (enters_of Tryz.func239 (by kernel_rfl) rfl) Tryz.func239 rfl Tryz.ntmps239 Tryz.results239 rfl (by first|rfl|(simp only[A0,wfL,AH,wfs,Ae,Ad];rfl)) rfl fun E=>?_
 refine AJ ?_
 repeat'(first|refine sR ?_|refine Ak rfl (by exact tt0) ?_|(refine gE ?_;first|refine BB (gk rfl) rfl rfl (by exact Al.symm) rfl rfl ?_)|(refine gA ?_;first|refine Be (gk rfl) rfl rfl rfl (by exact Al.symm) (by exact .rd) rfl rfl rfl (by(try dsimp only);omega) rfl rfl ?_)|(show VR _ _ _ (⟨_,.slice _ _ _ _ _,_,_,_,_⟩ :: _) _ _ _;first|refine Bi (gk rfl) rfl rfl (by exact .row) rfl rfl (by exact .int rfl rfl) (by exact .no) (by omega) (by(simp only[lns];omega)) (by(simp only[lns];omega)) rfl ?_)|refine sq 8 rfl ?_|(refine gD ?_;first|refine Ah rfl ?_|(refine Ay rfl ?_ ?_<;>intro h<;>have hq:=h<;>(try simp only[hqs] at hq)))|fail)
 ·have e:i=l.length:=by omega
  subst e;refine Ao (Am (l:=[(6,.c (.row 1 (l.length+1)))]) (b:=[(1,.row 3 1 (rowOf Fz.enc (Bq l l.length x)))]) (fun n=>if n=1 then 25 else n) ⟨⟨_,rfl,.c (.row rfl rfl)⟩,trivial⟩
   ⟨⟨_,rfl,.Bc ?_ Ag⟩,trivial⟩ rfl (by simp only[wfL,wfs];rfl)) (Bn Ab rfl rfl)
  rw[Bq,List.take_length,List.drop_length,AZ]
  rfl
 ·refine En (nm:=0) rfl (E3 (by omega)) fun cp spare hcp hmax=>?_
  rw[Al] at hcp
  repeat'(first|refine sR ?_|refine Ak rfl (by first|exact tt0|omega) ?_|(refine gC ?_;first|refine FA (gk rfl) rfl rfl rfl (by exact .full) (by omega) rfl rfl rfl ?_)|(refine gA ?_;first|refine Dk (gk rfl) rfl rfl rfl rfl rfl rfl rfl rfl rfl rfl (by omega) (by(simp only[lns];omega)) (by omega) (by(try dsimp only);omega) rfl rfl ?_)|(show VR _ _ _ (⟨_,.slice _ _ _ _ _,_,_,_,_⟩ :: _) _ _ _;first|refine B8 (gk rfl) rfl rfl (by exact .full) rfl rfl (by first|exact .no|exact .int rfl rfl) (by omega) (by omega) rfl ?_|refine Bi (gk rfl) rfl rfl (by exact .full) rfl rfl (by exact .int rfl rfl) (by exact .no) (by omega) (by omega) (by omega) rfl ?_)|(show VR _ _ _ (⟨_,.call ⟨.builtin .copy,_,_⟩,_,_,_,_⟩ :: _) _ _ _;first|refine Gc (gk rfl) rfl rfl (by exact .sub) rfl (by first|exact .src .rd|exact .tail rfl (by(simp only[lns];omega)) (by omega)) rfl rfl rfl (by(simp only[lns];omega)) (by omega) rfl ?_)|(show VR _ _ _ (⟨_,.call ⟨.builtin .cap,_,_⟩,_,_,_,_⟩ :: _) _ _ _;first|refine FC (gk rfl) rfl rfl rfl rfl ?_)|refine Ap (by kernel_rfl) ?_|refine sq 10 rfl ?_|(refine gD ?_;first|refine Ai rfl ?_|(refine Ay rfl ?_ ?_<;>intro h<;>have hq:=h<;>(try simp only[hqs] at hq)))|fail)
  ·have hq1:((l.length:Int)+(1:Nat)-i).toNat=l.length+1-i:=by omega
   refine En (nm:=40) rfl (by
    intro e;have:=congrArg List.length e;rw[Agn,Agw] at this;change _+_=0 at this;omega) fun cp2 spare2 hcp2 hmax2=>?_
   rw[Agn,Agw,Ags,Al] at hcp2
   repeat'(first|refine sB ?_|refine Ak rfl (by first|exact tt0|omega) ?_|(show VR _ _ _ (⟨_,.slice _ _ _ _ _,_,_,_,_⟩ :: _) _ _ _;first|refine Bi (gk rfl) rfl rfl (by exact .full) rfl rfl (by exact .int rfl rfl) (by exact .no) (by omega) (by omega) (by omega) rfl ?_)|(show VR _ _ _ (⟨_,.call ⟨.builtin .copy,_,_⟩,_,_,_,_⟩ :: _) _ _ _;first|refine Gc (gk rfl) rfl rfl (by exact .sub) rfl (by first|exact .src .rd|exact .src (.sub rfl (by exact .full) (by(simp only[lns];omega)))) rfl rfl rfl (by(simp only[lns];omega)) (by omega) rfl ?_)|refine Ap (by kernel_rfl) ?_|fail)
   refine Ao (Am (l:=[(6,.c (.row 1 (l.length+1)))]) (b:=[(1,.row 3 1 (rowOf Fz.enc (Bq l i x)))]) (fun n=>if n=1 then 40 else n) ⟨⟨_,rfl,.c (.row rfl (by omega))⟩,trivial⟩
    ⟨⟨_,rfl,.Ji (l.length+1) ?_⟩,trivial⟩ rfl (by simp only[wfL,wfs];rfl)) (Bn Ab rfl rfl)
   rw[hq1,show min 1 (i+(l.length+1-i)-i)=1 by omega,show min (l.length-i) (i+(l.length+1-i)-(i+1))=l.length-i by omega];exact(JI (y:=(Fz.enc x).map C.d) (Al (enc:=Fz.enc)) (by omega) rfl).trans (OC l i x).symm
  ·refine Ao (Am (l:=[(6,.c (.row 1 (l.length+1)))]) (b:=[(1,.row 3 1 (rowOf Fz.enc (Bq l i x)))]) (fun n=>if n=1 then 0 else n) ⟨⟨_,rfl,.c (.row rfl rfl)⟩,trivial⟩
    ⟨⟨_,rfl,.Ji (l.length+1) ?_⟩,trivial⟩ rfl (by simp only[wfL,wfs];rfl)) (Bn Ab rfl rfl)
   rw[show min 1 (l.length+1-i)=1 by omega,show min (l.length+1-i) (l.length+1-(i+1))=l.length-i by omega];exact(JH (y:=(Fz.enc x).map C.d) (Al (enc:=Fz.enc)) (by omega)).trans (OC l i x).symm
theorem XO (l:List Int) (y:Int) (hl:l.length<=100000) (hr:Nr id l) (hf:fdK id l y=false):FnS Tryz.prog 176 [.c (.row 0 l.length),AI y] [(0,.row 3 1 (rowOf Fz.enc l))] (.c (.row 1 (l.length+1))) [(1,.row 3 1 (rowOf Fz.enc (Nq id l y)))]:=by
 have hs:=NT l y (by omega);rw[hf] at hs;have hb:bsK id l y<=l.length:=(Ic hr y).1;have hu:Nq id l y=Bq l (bsK id l y) y:=by
  have:=PL (k:=id) (x:=y) hr;rw[this,AgY (by show ¬fdK id l y=true;rw[hf];simp)];rfl
 rw[hu];refine FnS.Bw (enters_of Tryz.func176 (by kernel_rfl) rfl) Tryz.func176 rfl Tryz.ntmps176 Tryz.results176 rfl (by first|rfl|(simp only[A0,wfL,AH,wfs,Ae,Ad];rfl)) rfl fun E=>?_
 refine AJ ?_
 repeat'(first|refine sB ?_|refine Ak rfl (by exact tt0) ?_|(refine gC ?_;first|refine AF [0] (hs) (gk rfl) rfl (by(repeat'(first|exact .nil|refine .cons ?_ ?_|exact .of0 (.c .d)|exact(.of0 (.c (A9 (by simp) rfl rfl (fun _=>rfl))))))<;>fail) (by rfl) rfl (by rfl) rfl (by exact Av) rfl ?_|refine Cy [18] (XN l (bsK id l y) y hl hb) (gk rfl) rfl rfl Ag rfl (by(repeat'(first|exact .nil|refine .cons ?_ ?_|exact .of0 (.c .d)|exact .of0 (.c (Gt (by decide) rfl rfl (by repeat'(first|exact tt0|refine⟨?_,?_⟩|rfl))))))<;>fail) rfl (by exact Ku (fun _=>rfl)) rfl (by(simp only[A0,wfL,AH,wfs,Ae,Ad];rfl)) rfl (by exact Bx) rfl ?_)|(refine gD ?_;first|refine Ah rfl ?_)|fail)
 refine Ao (Am (l:=[(4,.c (.row 1 (l.length+1)))]) (b:=[(1,.row 3 1 (rowOf Fz.enc (Bq l (bsK id l y) y)))]) (fun n=>if n=1 then 19001 else n) ?_ ?_ rfl (by(simp only[wfL,wfs,Ae,Ad];rfl))) (Bn Ab rfl rfl)
 all_goals repeat'(first|exact tt0|refine⟨⟨_,rfl,?_⟩,?_⟩|exact .c (.row rfl rfl)|exact .Bc rfl Ag|fail)
def Yg (h:Hd) (c:C):List C:=Em ((Hd.enc h).map C.d) 4 [c]
def DN (l:List Hd) (i nm:Nat):List (List C):=(rowOf Hd.enc l).set i (Yg (l.getD i default) (.row nm (l.getD i default).AT.length))
theorem Fp {l:List Hd} {i nm:Nat}:(DN l i nm).length=l.length:=by simp[DN,Al]
theorem Kw {l:List Hd} {i nm k:Nat}:(DN l i nm).map (fun cs=>cs.map (C.shift k))=DN l i (k+nm):=by
 unfold DN;rw[List.map_set,Cr]
 rfl
theorem Bj {l:List Hd} {i nm T:Nat} (hi:i<l.length):(Blk.row T 5 (DN l i nm)).names=[nm]:=by
 have h1:∀m:List Hd,(rowOf Hd.enc m).flatMap (fun cs=>cs.flatMap C.names)=[]:=fun m=>AY (T:=T) (sz:=5) (enc:=Hd.enc) (l:=m)
 show(DN l i nm).flatMap (fun cs=>cs.flatMap C.names)=[nm];unfold DN;rw[List.set_eq_take_append_cons_drop,AgZ (by rw[Al];exact hi),List.flatMap_append,List.flatMap_cons,CN,EA,h1,h1]
 rfl
theorem Ek {l:List Hd} {i nm k:Nat} (hk:k<l.length) (hik:k≠i):(DN l i nm)[k]?=some ((Hd.enc (l.getD k default)).map C.d):=by
 unfold DN;rw[AgG (fun e=>hik e.symm),Cf hk]
theorem GP {l:List Hd} {i nm:Nat} (hi:i<l.length):(DN l i nm)[i]?=some (Yg (l.getD i default) (.row nm (l.getD i default).AT.length)):=by
 unfold DN;exact ID (Cf hi)
theorem JO {σ:St} {f:Nat->Nat} {L:List Nat} {T:Nat} {xs ys:List (List C)} (hl:xs.length=ys.length) (h:∀i,i<ys.length->∀a b,xs[i]?=some a->ys[i]?=some b->A5 (CW σ f L) a b):BW σ f L (.row T 5 xs) (.row T 5 ys):=by
 refine .row (A5.RF hl fun i a b ha hb=>h i ?_ a b ha hb);exact(Ag3.1 hb).1
theorem JK {σ:St} {f:Nat->Nat} {L:List Nat} (x:Hd):A5 (CW σ f L) ((Hd.enc x).map C.d) ((Hd.enc x).map C.d):=CWs.refl (by simp[Hd.enc,C.isD])
theorem Aff {σ:St} {f:Nat->Nat} {L:List Nat} {T i nm nm':Nat} {l:List Hd} (hi:i<l.length) (hf:f nm'=nm):
  BW σ f L (.row T 5 ((rowOf Hd.enc l).set i (Em ((Hd.enc (l.getD i default)).map C.d) 4 [.row nm (l.getD i default).AT.length]))) (.row T 5 (DN l i nm')):=by
 refine JO (by simp[DN]) fun k hk a b ha hb=>?_
 rw[Fp] at hk;by_cases hik:k=i
 ·subst hik;rw[ID (Cf hi)] at ha;rw[GP hi] at hb;injection ha with ha;subst ha
  injection hb with hb;subst hb
  exact .cons .d (.cons .d (.cons .d (.cons .d (.cons (.row hf rfl) .nil))))
 ·rw[AgG (fun e=>hik e.symm),Cf hk] at ha;rw[Ek hk hik] at hb;injection ha with ha;subst ha
  injection hb with hb;subst hb
  exact JK _
theorem Abf {σ:St} {f:Nat->Nat} {L:List Nat} {T i k nm nm':Nat} {l:List Hd} {c:C} (hi:i<l.length) (hk:k<l.length) (hik:k≠i) (hf:f nm'=nm) (hc:CW σ f L c (.d (ints (l.getD k default).AT))):
  BW σ f L (.row T 5 ((DN l i nm).set k (Em ((Hd.enc (l.getD k default)).map C.d) 4 [c]))) (.row T 5 (DN l i nm')):=by
 refine JO (by simp[DN]) fun j hj a b ha hb=>?_
 rw[Fp] at hj;by_cases hjk:j=k
 ·subst hjk;rw[ID (Ek hk hik)] at ha;rw[Ek hk hik] at hb;injection ha with ha;subst ha
  injection hb with hb;subst hb
  exact .cons .d (.cons .d (.cons .d (.cons .d (.cons hc .nil))))
 ·rw[AgG (fun e=>hjk e.symm)] at ha;by_cases hji:j=i
  ·subst hji;rw[GP hi] at ha hb;injection ha with ha;subst ha
   injection hb with hb;subst hb
   exact .cons .d (.cons .d (.cons .d (.cons .d (.cons (.row hf rfl) .nil))))
  ·rw[Ek hj hji] at ha hb;injection ha with ha;subst ha
   injection hb with hb;subst hb
   exact JK _
theorem Afg {σ:St} {f:Nat->Nat} {L:List Nat} {T i nm nm':Nat} {l:List Hd} (hi:i<l.length) (hf:f nm'=nm):BW σ f L (.row T 5 (DN l i nm)) (.row T 5 (DN l i nm')):=by
 refine JO (by simp[DN]) fun j hj a b ha hb=>?_
 rw[Fp] at hj;by_cases hji:j=i
 ·subst hji;rw[GP hi] at ha hb;injection ha with ha;subst ha
  injection hb with hb;subst hb
  exact .cons .d (.cons .d (.cons .d (.cons .d (.cons (.row hf rfl) .nil))))
 ·rw[Ek hj hji] at ha hb;injection ha with ha;subst ha
  injection hb with hb;subst hb
  exact JK _
theorem R7 {σ:St} {L:List Nat} {nm nm3 n T T3 i:Nat} {l:List Hd} (hi:i<l.length) (hL:nm∈L) (hb:σ (.b nm)=some (.k (.row T 5 (DN l i nm3)))) (hL3:nm3∈L) (hb3:σ (.b nm3)=some (.k (.row T3 1 (rowOf Fz.enc (l.getD i default).AT)))) (hn:n=l.length):
  CR σ L (.row nm n) (.d (hds l)):=by
 subst hn;refine .Ad0 (cf:=fun k j=>if k=i then(Yg (l.getD i default) (.row nm3 (l.getD i default).AT.length)).getD j (.d .Db) else .d ((Hd.enc (l.getD k default)).getD j .Db)) hL hb (by rw[Fp];exact Ag0 _) (fun k x hk hx j hj=>?_) (fun k j hk hj=>?_)
 ·have:j=0\/j=1\/j=2\/j=3\/j=4:=by omega
  by_cases hki:k=i
  ·subst hki;rw[GP hi] at hx;injection hx with hx;subst hx
   rw[AgZ rfl];rcases this with rfl|rfl|rfl|rfl|rfl<;>rfl
  ·rw[Ek hk hki] at hx;injection hx with hx;subst hx
   rw[AgY hki];rcases this with rfl|rfl|rfl|rfl|rfl<;>rfl
 ·have:j=0\/j=1\/j=2\/j=3\/j=4:=by omega
  by_cases hki:k=i
  ·subst hki;rw[AgZ rfl];rcases this with rfl|rfl|rfl|rfl|rfl
   ·exact .d
   ·exact .d
   ·exact .d
   ·exact .d
   ·exact A9 hL3 hb3 rfl fun _=>rfl
  ·rw[AgY hki];exact .d
set_option maxHeartbeats 2000000 in
theorem QM (s:Sta) (hck:AQ s=0) (i:Nat) (hi:i<s.held.length):FnS Tryz.prog 160 [stA s] [] (.agg (s.csR (.row 101 s.held.length) (.row 102 s.seen.length)))
  [(101,.row 110 5 (DN s.held i 103)),(102,.row 123 2 (rowOf Sn.enc s.seen)),(103,.row 3 1 (rowOf Fz.enc (s.held.getD i default).AT))]:=by
 obtain⟨hT,hQ,_,hH,hSn,_,_⟩:=Bf hck;have hTl:=Cn hT;have hQl:=CP hQ;have hHl:=D8 hH;have hSl:=J4 hSn;refine fb Tryz.func160 (by kernel_rfl) rfl Tryz.ntmps160 Tryz.results160 rfl rfl rfl rfl fun E hS=>?_
 refine AJ ?_
 repeat'(first|refine sC ?_|refine Ak rfl (by exact tt0) ?_|(refine gC ?_;first|refine Aa (MZ s.tb.cells (by omega)) (gk rfl) rfl rfl rfl (by(simp only[A0,wfL,AH,wfs,Bj hi,Ae,Ad];rfl)) rfl (by exact Bx) rfl ?_|refine Aa (GU s.qu.Af (by omega)) (gk rfl) rfl rfl rfl (by(simp only[A0,wfL,AH,wfs,Bj hi,Ae,Ad];rfl)) rfl (by exact Bx) rfl ?_|refine Aa (Sb s.held (by omega)) (gk rfl) rfl rfl rfl (by(simp only[A0,wfL,AH,wfs,Bj hi,Ae,Ad];rfl)) rfl (by exact Bx) rfl ?_|refine Aa (Sa s.seen (by omega)) (gk rfl) rfl rfl rfl (by(simp only[A0,wfL,AH,wfs,Bj hi,Ae,Ad];rfl)) rfl (by exact Bx) rfl ?_)|(refine gE ?_;first|refine BB (gk rfl) rfl rfl (by exact Al.symm) rfl rfl ?_)|refine Ap (by kernel_rfl) ?_|fail)
 refine AK (ι:=Nat) (fun k=>if k<=i then AS [(1,.c (.ptr 1 0)),(2,.c (.ptr 2 0)),(26,AI s.held.length),(27,AI k)] [(1,.box (s.csR (.row 101 s.held.length) (.row 102 s.seen.length))),(2,.box noS.cs),(101,.row 110 5 (rowOf Hd.enc s.held)),(102,.row 123 2 (rowOf Sn.enc s.seen))] else AS [(1,.c (.ptr 1 0)),(2,.c (.ptr 2 0)),(26,AI s.held.length),(27,AI k)] [(1,.box (s.csR (.row 101 s.held.length) (.row 102 s.seen.length))),(2,.box noS.cs),(101,.row 110 5 (DN s.held i 103)),(102,.row 123 2 (rowOf Sn.enc s.seen)),(103,.row 3 1 (rowOf Fz.enc (s.held.getD i default).AT))])
  (fun k=>k<=s.held.length) (fun k=>s.held.length-k) 0 (Ag1 _) ?_ ?_
 ·rw[AgZ (Ag1 _)];refine Bm (fun n=>if n=101 then 18007 else if n=102 then 21007 else n) [7007,11007] hS ?_ ?_ rfl (by(simp only[wfL,wfs,Ae,Ad,Bj hi];rfl))
  all_goals repeat'(first|exact tt0|refine⟨⟨_,rfl,?_⟩,?_⟩|exact .c .d|exact .c (.ptr rfl)|exact .Bc rfl Ag|refine .box ?_|exact .nil|refine .cons ?_ ?_|exact .d|exact .row rfl rfl|exact .Cd (by(simp;done)) rfl rfl (fun _=>rfl)|fail)
 ·intro k hk;rcases Ag2 k s.held.length with hlt|hge
  ·have dlt:decide ((k:Int)<(s.held.length:Int))=true:=Agj (by omega);have hal:=Hq (DZ (hHl.2 k hlt).1).2.2.2.2.2.2;rcases Nat.lt_trichotomy k i with hki|hki|hki
   ·rw[AgZ (by omega)]
    repeat'(first|refine sC ?_|refine Ak rfl (by first|exact tt0|omega) ?_|(refine gC ?_;first|refine Aa (M0 (s.held.getD k default).AT (by omega)) (gk rfl) rfl rfl rfl (by(simp only[A0,wfL,AH,wfs,Bj hi,Ae,Ad];rfl)) rfl (by exact Bx) rfl ?_)|(refine gI ?_;first|refine BG (gk rfl) rfl rfl rfl rfl rfl rfl (by omega) (by omega) rfl ?_)|(refine gL ?_;first|refine Co (gk rfl) rfl rfl (by omega) rfl rfl rfl ?_)|(refine gS ?_;first|refine By (gk rfl) rfl rfl rfl (by omega) rfl rfl rfl ?_)|refine Ap (by kernel_rfl) ?_|(refine gD ?_;first|refine Ai rfl ?_|refine At rfl (by assumption) ?_)|fail)
    refine⟨k+1,by omega,by omega,?_⟩;rw[AgZ (by omega)];refine Bm (fun n=>n) [39007] hS ?_ ?_ rfl (by(simp only[wfL,wfs,Ae,Ad,Bj hi];rfl))
    all_goals repeat'(first|exact tt0|refine⟨⟨_,rfl,?_⟩,?_⟩|exact .c .d|exact .c (.ptr rfl)|exact .Bs rfl rfl|exact .Bc rfl Ag|refine .box ?_|exact .nil|refine .cons ?_ ?_|exact .d|exact .row rfl rfl|fail)
    exact Y4 hlt (.Cd (enc:=Fz.enc) (by simp) rfl rfl (fun _=>rfl))
   ·rw[AgZ (by omega)]
    repeat'(first|refine sC ?_|refine Ak rfl (by first|exact tt0|omega) ?_|(refine gC ?_;first|refine Aa (M0 (s.held.getD k default).AT (by omega)) (gk rfl) rfl rfl rfl (by(simp only[A0,wfL,AH,wfs,Bj hi,Ae,Ad];rfl)) rfl (by exact Bx) rfl ?_)|(refine gI ?_;first|refine BG (gk rfl) rfl rfl rfl rfl rfl rfl (by omega) (by omega) rfl ?_)|(refine gL ?_;first|refine Co (gk rfl) rfl rfl (by omega) rfl rfl rfl ?_)|(refine gS ?_;first|refine By (gk rfl) rfl rfl rfl (by omega) rfl rfl rfl ?_)|refine Ap (by kernel_rfl) ?_|(refine gD ?_;first|refine Ai rfl ?_|refine At rfl (by assumption) ?_)|fail)
    refine⟨k+1,by omega,by omega,?_⟩;rw[AgY (by omega)];subst hki;refine Am (fun n=>if n=103 then 39007 else n) ?_ ?_ rfl (by(simp only[wfL,wfs,Ae,Ad,Bj hi];rfl))
    all_goals repeat'(first|exact tt0|refine⟨⟨_,rfl,?_⟩,?_⟩|exact .c .d|exact .c (.ptr rfl)|exact .Bs rfl rfl|exact .Bc rfl Ag|refine .box ?_|exact .nil|refine .cons ?_ ?_|exact .d|exact .row rfl rfl|fail)
    exact Aff hlt rfl
   ·rw[AgY (by omega)];have hne:k≠i:=by omega
    repeat'(first|refine sC ?_|(refine gI ?_;first|refine Ec (gk rfl) rfl rfl rfl rfl rfl rfl (by omega) (Fp.symm▸hlt) rfl ?_)|(refine gL ?_;first|refine EC (gk rfl) rfl rfl (Ek hlt hne) rfl rfl rfl ?_)|(refine gS ?_;first|refine Eb (gk rfl) rfl rfl rfl (Ek hlt hne) rfl rfl rfl ?_)|refine Ak rfl (by first|exact tt0|omega) ?_|(refine gC ?_;first|refine Aa (M0 (s.held.getD k default).AT (by omega)) (gk rfl) rfl rfl rfl (by(simp only[A0,wfL,AH,wfs,Bj hi,Ae,Ad];rfl)) rfl (by exact Bx) rfl ?_)|refine Ap (by kernel_rfl) ?_|(refine gD ?_;first|refine Ai rfl ?_|refine At rfl (by assumption) ?_)|fail)
    refine⟨k+1,by omega,by omega,?_⟩;rw[AgY (by omega)];refine Bm (fun n=>n) [39007] hS ?_ ?_ rfl (by(simp only[wfL,wfs,Ae,Ad,Bj hi];rfl))
    all_goals repeat'(first|exact tt0|refine⟨⟨_,rfl,?_⟩,?_⟩|exact .c .d|exact .c (.ptr rfl)|exact .Bs rfl rfl|exact .Bc rfl Ag|refine .box ?_|exact .nil|refine .cons ?_ ?_|exact .d|exact .row rfl rfl|fail)
    exact Abf hi hlt hne rfl (.Cd (enc:=Fz.enc) (by simp) rfl rfl (fun _=>rfl))
  ·have dlt:decide ((k:Int)<(s.held.length:Int))=false:=Agk (by omega);rw[AgY (by omega)]
   repeat'(first|refine sB ?_|refine Ak rfl (by exact tt0) ?_|(refine gD ?_;first|refine Ah rfl ?_|refine At rfl (by assumption) ?_)|fail)
   refine Ao (Am (l:=[(2,.c (.ptr 2 0))]) (b:=[(2,.box (s.csR (.row 101 s.held.length) (.row 102 s.seen.length))),(101,.row 110 5 (DN s.held i 103)),(102,.row 123 2 (rowOf Sn.enc s.seen)),(103,.row 3 1 (rowOf Fz.enc (s.held.getD i default).AT))]) (fun n=>n) ?_ ?_ rfl (by(simp only[wfL,wfs,Ae,Ad,Bj hi];rfl))) (DG Ab (.agg rfl rfl rfl rfl .nil) rfl (by repeat'(first|exact tt0|refine⟨rfl,?_⟩)))
   all_goals repeat'(first|exact tt0|refine⟨⟨_,rfl,?_⟩,?_⟩|exact .c (.ptr rfl)|exact .Bc rfl Ag|refine .box ?_|exact .nil|refine .cons ?_ ?_|exact .d|exact .row rfl rfl|fail)
   exact Afg hi rfl
end Go.Proofs
end
section
namespace Go.Proofs
open Go Go.Sx Go.Proofs.T Go.Proofs.Q
set_option maxRecDepth 4000
attribute [local irreducible] VR VC thenQ blockQ retL
set_option maxHeartbeats 2000000 in
theorem PO (s:Sta) (slot:Int) (hck:AQ s=0) (hs:0<=slot/\slot<=109951162) (i:Nat) (hi:i<s.held.length):FnS Tryz.prog 171 [stA s,AI slot] [] (.tup [.c (.ptr 100 0),AI 0]) [(100,.box (wcs s (.row 101 s.held.length) (.row 102 s.seen.length) slot (atM s.tb slot).1)),(101,.row 110 5 (DN s.held i 103)),(102,.row 123 2 (rowOf Sn.enc s.seen)),(103,.row 3 1 (rowOf Fz.enc (s.held.getD i default).AT))]:=by
 have hc:=Dv s;rw[hck] at hc;have d1:(!decide (0<=slot/\slot<=109951162))=false:=by simp only[Bool.not_eq_false',Agl];exact hs
 refine fb Tryz.func171 (by kernel_rfl) rfl Tryz.ntmps171 Tryz.results171 rfl rfl rfl rfl fun E hS=>?_
 refine AJ ?_
 repeat'(first|refine sB ?_|refine Ak rfl (by exact tt0) ?_|(refine gC ?_;first|refine Aa (hc) (gk rfl) rfl rfl rfl (by rfl) rfl (by exact Av) rfl ?_|refine Aa (BD _ _) (gk rfl) rfl rfl rfl (by rfl) rfl (by exact Av) rfl ?_|refine Aa (QM s hck i hi) (gk rfl) rfl rfl rfl (by(simp only[A0,wfL,AH,wfs,Bj hi,Ae,Ad];rfl)) rfl (by((simp only[Ex,List.map_cons,List.map_nil,Blk.shift,Cr,Kw])<;>rfl)) rfl ?_|refine Aa (M9 s.tb slot) (gk rfl) rfl rfl rfl (by rfl) rfl (by exact Av) rfl ?_)|(refine gN ?_;first|refine Aj (gk rfl) rfl rfl ?_)|(refine gD ?_;first|refine Ah rfl ?_|refine At rfl (by assumption) ?_)|fail)
 refine Ao (Am (l:=[(4,.c (.ptr 100 0)),(5,AI 0)]) (b:=[(100,.box (wcs s (.row 101 s.held.length) (.row 102 s.seen.length) slot (atM s.tb slot).1)),(101,.row 110 5 (DN s.held i 103)),(102,.row 123 2 (rowOf Sn.enc s.seen)),(103,.row 3 1 (rowOf Fz.enc (s.held.getD i default).AT))]) (fun n=>if n=100 then 17 else if n=101 then 14101 else if n=102 then 14102 else if n=103 then 14103 else n) ?_ ?_ rfl (by(simp only[wfL,wfs,Ae,Ad,Bj hi];rfl))) (DG Ab (.tmp rfl rfl (.tmp rfl rfl .nil)) rfl (by repeat'(first|exact tt0|refine⟨rfl,?_⟩)))
 all_goals repeat'(first|exact tt0|refine⟨⟨_,rfl,?_⟩,?_⟩|exact .c .d|exact .c (.ptr rfl)|exact .Bc rfl Ag|refine .box ?_|exact .nil|refine .cons ?_ ?_|exact .d|exact .row rfl rfl|fail)
 exact Afg hi rfl
theorem Nl {s:Sta} {slot:Int} {c:TC} (h1:(C2 s slot c).kind=1) (h2:(C2 s slot c).BF=1):
  c.kind=1/\c.send=true/\∃i,OH s.held c.Cb=some i/\¬(s.held.getD i default).til<slot/\((s.held.getD i default).AT.any fun y=>decide (c.peer=y))=false/\C2 s slot c={Afc s c (s.held.getD i default) with offset:=c.offset}:=by
 have hz:∀a:Ac,(RE a c.offset).kind=a.kind:=fun a=>by unfold RE;split<;>rfl
 have hf:∀a:Ac,(RE a c.offset).BF=a.BF:=fun a=>by unfold RE;split<;>rfl
 unfold C2 at h1 h2 ⊢;rw[hz] at h1;rw[hf] at h2;unfold G1 at h1 h2 ⊢;by_cases k1:c.kind=1
 ·rw[AgZ k1] at h1 h2 ⊢;unfold Wc at h1 h2 ⊢;cases hsd:c.send with
  |false=>rw[hsd,AgZ rfl] at h1;cases h1
  |true=>
   rw[hsd,AgY (by simp)] at h1 h2;rw[AgY (by simp)];cases hh:OH s.held c.Cb with
   |none=>rw[hh] at h1;cases h1
   |some i=>
    rw[hh] at h1 h2;dsimp only at h1 h2 ⊢
    split at h1
    ·cases h1
    ·rename_i hn;have h3:¬(s.held.getD i default).til<slot:=fun h=>hn (.inl h)
     have h4:((s.held.getD i default).AT.any fun y=>decide (c.peer=y))=false:=by
      cases h:(s.held.getD i default).AT.any fun y=>decide (c.peer=y) with
      |true=>exact absurd (.inr h) hn
      |false=>rfl
     refine⟨k1,rfl,i,rfl,h3,h4,?_⟩;rw[AgY hn];exact JD (by intro h;cases h)
 ·rw[AgY k1] at h1 h2;by_cases k2:c.kind=2
  ·rw[AgZ k2] at h1 h2;unfold Yu at h1 h2
   split at h1
   ·cases h1
   ·rename_i hsd;rw[AgY hsd] at h2
    split at h1
    ·rename_i hq;rw[AgZ hq] at h2;cases h2
    ·cases h1
  ·rw[AgY k2] at h1 h2;by_cases k3:c.kind=3
   ·rw[AgZ k3] at h1 h2;unfold YM at h1 h2
    split at h1
    ·rename_i hq;rw[AgZ hq] at h2;cases h2
    ·cases h1
   ·rw[AgY k3] at h1;cases h1
theorem AdD {σ:St} {f:Nat->Nat} {L:List Nat} {T i nm:Nat} {l:List Hd} {c c0:C} {x:List Int} (hi:i<l.length) (hc:CW σ f L c (.d (ints x))):
  BW σ f L (.row T 5 ((DN l i nm).set i (Em (Yg (l.getD i default) c0) 4 [c]))) (.row T 5 (rowOf Hd.enc (l.set i {l.getD i default with AT:=x}))):=by
 unfold DN;rw[Rg];refine JO (by simp[Al]) fun j hj a b ha hb=>?_
 rw[Al,Agy] at hj;rw[Cf (by rw[Agy];exact hj)] at hb;by_cases hji:j=i
 ·subst hji;rw[ID (Cf hi)] at ha;rw[Agi,List.getElem?_set_self hi] at hb;injection ha with ha;subst ha
  injection hb with hb;subst hb
  exact .cons .d (.cons .d (.cons .d (.cons .d (.cons hc .nil))))
 ·rw[AgG (fun e=>hji e.symm),Cf hj] at ha;rw[Agi,AgG (fun e=>hji e.symm),<-Agi] at hb;injection ha with ha;subst ha
  injection hb with hb;subst hb
  exact JK _
set_option maxHeartbeats 4000000 in
theorem Yc (s:Sta) (slot:Int) (r:Rs) (hck:AQ s=0) (hs:0<=slot/\slot<=109951162) (k1:(C2 s slot (atM s.tb slot).1).kind=1) (k2:(C2 s slot (atM s.tb slot).1).BF=1) (hac:r.AT=true):
  FnS Tryz.prog 130 [stA s,AI slot,rsA r] [] (.tup [stA (CJ s slot (atM s.tb slot).1 r).1,upA (CJ s slot (atM s.tb slot).1 r).2,AI 0]) []:=by
 have e:CJ s slot (atM s.tb slot).1 r=(Abt s (C2 s slot (atM s.tb slot).1),zUp):=by rw[CJ,AgZ ⟨k1,k2⟩,AgZ hac]
 obtain⟨_,_,i,hf,_,hna,ha⟩:=Nl k1 k2;obtain⟨hi,hfl,_⟩:=BJ hf;have hfl:=AgI hfl;have hHl:=(D8 (Bf hck).2.2.2.1).2 i hi;have hrg:=(DZ hHl.1).2.2.2.2.2.2;have hal:=Hq hrg;have hri:Nr id (s.held.getD i default).AT:=Mu fun j hj h0=>(GD hrg j hj).2.2 h0
 have hst:=PO s slot hck hs i hi;have hao:=Cj s slot (atM s.tb slot).1 hck;have hho:=IP s slot (atM s.tb slot).1 (C2 s slot (atM s.tb slot).1).Cb;rw[e];generalize atM s.tb slot=ac at *;obtain⟨c,ok⟩:=ac;dsimp only at *;have hfw:(C2 s slot c).Cb=c.Cb:=by rw[ha];exact hfl
 have htg:(C2 s slot c).target=c.peer:=by rw[ha];rfl
 have hfd:fdK id (s.held.getD i default).AT (C2 s slot c).target=false:=by
  rw[AaS hri,htg];rw[<-hna];exact congrArg (fun p=>(s.held.getD i default).AT.any p) (funext fun y=>decide_eq_decide.2 eq_comm)
 rw[hfw,hf] at hho;have hho':FnS Tryz.prog 175 [wP s slot c,AI c.Cb] [] (AI (i:Nat)) []:=hho;rw[<-hfw] at hho';have d1:decide ((C2 s slot c).kind=1)=true:=Agj k1;have d2:decide ((C2 s slot c).BF=1)=true:=Agj k2;have e1:Abt s (C2 s slot c)={s with held:=s.held.set i {s.held.getD i default with AT:=Nq id (s.held.getD i default).AT (C2 s slot c).target}}:=by
  rw[Abt,hfw,hf]
 rw[e1];have hins:=XO (s.held.getD i default).AT (C2 s slot c).target (by omega) hri hfd;have hul:(Nq id (s.held.getD i default).AT (C2 s slot c).target).length=(s.held.getD i default).AT.length+1:=by
  have:=W9 (k:=id) (x:=(C2 s slot c).target) hri;rw[this,AgY (by show ¬fdK id _ (C2 s slot c).target=true;rw[hfd];simp)]
 refine fb Tryz.func130 (by kernel_rfl) rfl Tryz.ntmps130 Tryz.results130 rfl rfl rfl rfl fun E hS=>?_
 refine AJ ?_
 repeat'(first|refine sR ?_|refine Ak rfl (by exact tt0) ?_|(refine gC ?_;first|refine Aa (hst) (gk rfl) rfl rfl rfl (by(simp only[A0,wfL,AH,wfs,Bj hi,Ae,Ad];rfl)) rfl (by((simp only[Ex,List.map_cons,List.map_nil,Blk.shift,Cr,Kw])<;>rfl)) rfl ?_)|refine sq 4 rfl ?_|(refine gD ?_;first|refine Ah rfl ?_)|fail)
 refine VC.le (σ':=AS [(5,.c (.ptr 5 0)),(6,.c (.ptr 6 0)),(7,.c (.ptr 7 0)),(8,AI 0),(9,.c (.ptr 100 0))] [(5,.box r.cs),(6,.box noS.cs),(7,.box zUp.cs),(100,.box (wcs s (.row 101 s.held.length) (.row 102 s.seen.length) slot c)),(101,.row 110 5 (DN s.held i 103)),(102,.row 123 2 (rowOf Sn.enc s.seen)),(103,.row 3 1 (rowOf Fz.enc (s.held.getD i default).AT))]) ?_ ?_
 ·refine Am (fun n=>if n=100 then 19100 else if n=102 then 19102 else if n=101 then 19101 else if n=103 then 19103 else n) ?_ ?_ rfl (by(simp only[wfL,wfs,Ae,Ad,Bj hi];rfl))
  all_goals repeat'(first|exact tt0|refine⟨⟨_,rfl,?_⟩,?_⟩|exact .c .d|exact .c (.ptr rfl)|exact .Bs rfl rfl|exact .Bc rfl Ag|refine .box ?_|exact .nil|refine .cons ?_ ?_|exact .d|exact .row rfl rfl|fail)
  exact Afg hi rfl
 repeat'(first|refine sC ?_|(refine gI ?_;first|refine Ec (gk rfl) rfl rfl rfl rfl rfl rfl (by omega) (Fp.symm▸hi) rfl ?_)|(refine gL ?_;first|refine EC (gk rfl) rfl rfl (GP hi) rfl rfl rfl ?_)|(refine gS ?_;first|refine Eb (gk rfl) rfl rfl rfl (GP hi) rfl rfl rfl ?_)|refine Ak rfl (by exact tt0) ?_|(refine gC ?_;first|refine AF [100,101,102,103] (hao) (gk rfl) rfl (by(repeat'(first|exact .nil|refine .cons ?_ ?_|exact(KY (by simp) rfl (R7 hi (by simp) rfl (by simp) rfl rfl) (A9 (by simp) rfl rfl (fun _=>rfl)))))<;>fail) (by rfl) rfl (by rfl) rfl (by exact Av) rfl ?_|refine AF [100,101,102,103] (hho') (gk rfl) rfl (by(repeat'(first|exact .nil|refine .cons ?_ ?_|exact .of0 (.c .d)|exact(KY (by simp) rfl (R7 hi (by simp) rfl (by simp) rfl rfl) (A9 (by simp) rfl rfl (fun _=>rfl)))))<;>fail) (by rfl) rfl (by rfl) rfl (by exact Av) rfl ?_|refine Cy [] (hins) (gk rfl) rfl rfl Ag rfl (by(repeat'(first|exact .nil|refine .cons ?_ ?_|exact .of0 (.c .d)))<;>fail) rfl (by rfl) rfl (by(simp only[A0,wfL,AH,wfs,Bj hi,Ae,Ad];rfl)) rfl (by exact Bx) rfl ?_)|(refine gN ?_;first|refine D6 (gk rfl) rfl rfl ?_|refine Aj (gk rfl) rfl rfl ?_)|refine Az rfl (by assumption) ?_|refine Ap (by kernel_rfl) ?_|(refine gD ?_;first|refine Ai rfl ?_|refine At rfl (by assumption) ?_)|fail)
 refine Mv (σ1:=AS [(6,.c (.ptr 6 0)),(7,.c (.ptr 7 0)),(8,AI 0)] [(6,.box (s.csR (.row 101 s.held.length) (.row 102 s.seen.length))),(7,.box zUp.cs),(101,.row 110 5 (rowOf Hd.enc (s.held.set i {s.held.getD i default with AT:=Nq id (s.held.getD i default).AT (C2 s slot c).target}))),(102,.row 123 2 (rowOf Sn.enc s.seen))]) ?_ ?_
 ·refine Bm (fun n=>n) [61001] hS ?_ ?_ rfl (by(simp only[wfL,wfs,Ae,Ad,Bj hi];rfl))
  all_goals repeat'(first|exact tt0|refine⟨⟨_,rfl,?_⟩,?_⟩|exact .c .d|exact .c (.ptr rfl)|exact .Bs rfl rfl|exact .Bc rfl Ag|refine .box ?_|exact .nil|refine .cons ?_ ?_|exact .d|exact .row rfl rfl|fail)
  exact AdD hi (.Cd (enc:=Fz.enc) (by simp) rfl hul.symm (fun _=>rfl))
 refine Ao (Bm (l:=[(6,.c (.ptr 6 0)),(7,.c (.ptr 7 0)),(8,AI 0)]) (b:=[(6,.box (Sta.cs {s with held:=s.held.set i {s.held.getD i default with AT:=Nq id (s.held.getD i default).AT (C2 s slot c).target}})),(7,.box zUp.cs)]) (fun n=>n) [101,102] hS ?_ ?_ rfl (by rfl)) (Ba Ab rfl rfl rfl rfl rfl rfl rfl rfl rfl rfl rfl rfl)
 all_goals repeat'(first|exact tt0|refine⟨⟨_,rfl,?_⟩,?_⟩|exact .c .d|exact .c (.ptr rfl)|exact .Bs rfl rfl|refine .box ?_|exact .nil|refine .cons ?_ ?_|exact .d|exact .Cd (by(simp;done)) rfl rfl (fun _=>rfl)|(refine .Cd (by(simp;done)) rfl ?_ (fun _=>rfl);((try dsimp only);first|(simp only[lns]<;>omega));done)|fail)
theorem V6 (s:Sta) (slot:Int) (r:Rs):FnS Tryz.prog 130 [stA s,AI slot,rsA r] [] (.tup [stA (EZ s slot r).1,upA (EZ s slot r).2.1,AI (EZ s slot r).2.2]) []:=by
 by_cases hck:AQ s=0
 ·by_cases hs:0<=slot/\slot<=109951162
  ·have e:EZ s slot r=((CJ s slot (atM s.tb slot).1 r).1,(CJ s slot (atM s.tb slot).1 r).2,0):=by rw[EZ,AgY (by omega),AgY (by omega)]
   rw[e];by_cases h:(C2 s slot (atM s.tb slot).1).kind=1/\(C2 s slot (atM s.tb slot).1).BF=1/\r.AT=true
   ·exact Yc s slot r hck hs h.1 h.2.1 h.2.2
   ·exact V9 s slot r hck hs h
  ·have e:EZ s slot r=(noS,zUp,2):=by rw[EZ,AgY (by omega),AgZ (by omega)]
   rw[e];exact TN s slot r hck hs
 ·have e:EZ s slot r=(noS,zUp,1):=by rw[EZ,AgZ hck]
  rw[e];exact Yb s slot r hck
end Go.Proofs
end
