/-
  Functions' results, and laws on them. No condition.
-/
import Derived.Test.YtdlcbilgemnomaaGreatSxMat
import Derived.Test.YtdlcbilgemnomaaGreatSxMas
set_option linter.unusedSimpArgs false
set_option linter.unusedVariables false
set_option maxHeartbeats 16000000
open Go.Proofs.Tryz
namespace Go.Proofs
open Go Go.Sx Go.Proofs.T Go.Proofs.Q
theorem Vq {p:Pk} (h:Eo p=0):0<=p.id/\-1<=p.to/\p.to<=31:=by
 unfold Eo at h
 split at h
 ·cases h
 ·rename_i hn;simp only[inI,not_or,Ajx,AjF] at hn;omega
theorem Wx {l:List Pk} {k:Nat} (h:k<l.length):l.getD k default=l[k]:=by
 rw[Ajt,AjC h];rfl
theorem Aic {q:Qu} (h:Br q=0):q.Ab.Pairwise fun x y=>x.id≠y.id/\x.prio<=y.prio:=by
 refine List.pairwise_iff_getElem.2 fun i j hi hj hij=>?_
 rw[<-Wx hi,<-Wx hj];refine⟨M9 h hi hj (by omega),?_⟩;have key:∀d,i+d<q.Ab.length->(q.Ab.getD i default).prio<=(q.Ab.getD (i+d) default).prio:=by
  intro d
  induction d with
  |zero=>intro _;exact Int.le_refl _
  |succ d ih=>
   intro hd;have h4:=(El h hd).2.2 (by omega);rw[show i+(d+1)-1=i+d by omega] at h4;exact Int.le_trans (ih (by omega)) h4
 have:=key (j-i) (by omega)
 rwa [show i+(j-i)=j by omega] at this
theorem Ajg {q:Qu} (h:Br q=0) {m:List Pk} (hs:m.Sublist q.Ab):Br ⟨q.Be,m⟩=0:=by
 obtain⟨h1,h2,h3⟩:=B9 h;have hl:=hs.length_le;have hp:=List.pairwise_iff_getElem.1 ((Aic h).sublist hs);unfold Br;rw[Akb (by simp only[inI];simp;omega),Akb (by dsimp only;omega)];refine De fun k hk=>?_
 dsimp only at hk ⊢;unfold Ho;have hf:Eo (m.getD k default)=0:=by
  obtain⟨i,hi,he⟩:=CI (hs.subset (BS hk));rw[<-he];exact(El h hi).1
 rw[Akb (by simp only[ne_eq,AjF];exact hf),Akb ?_,Akb ?_]
 ·rintro⟨h0,h3⟩;have:=(hp (k-1) k (by omega) hk (by omega)).2;rw[Wx hk,Wx (show k-1<m.length by omega)] at h3;omega
 ·intro ha;rw[AjM] at ha;obtain⟨x,hx,he⟩:=ha;obtain⟨i,hi,hil,rfl⟩:=CU hx;have:=(hp i k hil hk hi).1;rw[Wx hk,Wx hil] at he;exact this (AjT he)
theorem AaU {s:Sta} (hQ:Br s.qu=0) {p:Pk} (hp:p∈s.qu.Ab):∃m,(Ke s.qu p.id).1=⟨s.qu.Be,m⟩/\m.Sublist s.qu.Ab:=by
 obtain⟨i,hi⟩:=Zk hp;rw[Kd hQ hi];exact⟨_,rfl,List.eraseIdx_sublist _ _⟩
theorem Ez {s t:Sta} (hck:AU s=0) {m:List Pk} (hs:m.Sublist s.qu.Ab) (ht:t.tb=s.tb) (hq:t.qu=⟨s.qu.Be,m⟩):CS t=true:=by
 obtain⟨_,hQ,hP,_⟩:=Ba hck;unfold CS;rw[hq,ht,Ajg hQ hs,AjN.2 fun x hx=>by rw[hP x (hs.subset hx)];simp]
 rfl
theorem Vk {s:Sta} (hck:AU s=0) {p:Pk} (hp:p∈s.qu.Ab) (b w:Int) (hb:0<=b/\b<=5/\0<=w/\w<=2^b.toNat-1):
  AU {Fi s p.id with back:=b,wait:=w}=0/\({Fi s p.id with back:=b,wait:=w}:Sta).qu.Ab.length<=s.qu.Ab.length:=by
 obtain⟨h1,h2,h3,h4,h5,h6,h7⟩:=Ba hck;obtain⟨m,hm,hs⟩:=AaU h2 hp;have h7:=EI h7;refine⟨Ce h1 (Ez hck hs rfl hm) h4 h5 (Aju (.inl ⟨rfl,rfl⟩)) (Aju ?_),?_⟩
 ·show 0<=s.list/\s.list<=255/\0<=(s.seq+1) % 256/\(s.seq+1) % 256<=255/\0<=b/\b<=5/\0<=w/\w<=2^b.toNat-1/\0<=s.Cq/\s.Cq<=2147483647;exact⟨h7.1,h7.2.1,by omega,by omega,hb.1,hb.2.1,hb.2.2.1,hb.2.2.2,h7.2.2.2.2.2.2.2.2.1,h7.2.2.2.2.2.2.2.2.2⟩
 ·show(Ke s.qu p.id).1.Ab.length<=_;rw[hm];exact hs.length_le
theorem VL {s:Sta} {c:TC} (hck:AU s=0) (hp:BG s c∈s.qu.Ab) (ht:CK s c<4) (b w d:Int) (hb:0<=b/\b<=5/\0<=w/\w<=2^b.toNat-1) (hd:0<=d/\d<=2147483647):
  AU {s with A6:=(BG s c).id,tries:=CK s c,back:=b,wait:=w,Cq:=d}=0:=by
 obtain⟨h1,h2,h3,h4,h5,h6,h7⟩:=Ba hck;have h7:=EI h7;have h6:=AjT h6;obtain⟨i,hi,he⟩:=CI hp;have hid:0<=(BG s c).id:=by rw[<-he];exact(Vq (El h2 hi).1).1
 have ht1:1<=CK s c:=by
  unfold CK
  split<;>omega
 refine Ce h1 (Ez hck (List.Sublist.refl _) rfl rfl) h4 h5 (Aju (.inr ⟨hid,?_,ht1,ht⟩)) (Aju ?_)
 ·exact AjM.2 ⟨_,hp,Aju rfl⟩
 ·show 0<=s.list/\s.list<=255/\0<=s.seq/\s.seq<=255/\0<=b/\b<=5/\0<=w/\w<=2^b.toNat-1/\0<=d/\d<=2147483647;exact⟨h7.1,h7.2.1,h7.2.2.1,h7.2.2.2.1,hb.1,hb.2.1,hb.2.2.1,hb.2.2.2,hd.1,hd.2⟩
def Acm (s t:Sta):Prop:=AU t=0/\t.qu.Ab.length<=s.qu.Ab.length/\t.tb=s.tb
theorem AaT {s:Sta} {c:TC} (AH:Bool) (hck:AU s=0) (hp:BG s c∈s.qu.Ab):Acm s (Cm s c AH):=by
 obtain⟨h1,h2,h3,h4,h5,h6,h7⟩:=Ba hck;have h7:=EI h7;have hL:Acm s (Fi s (BG s c).id):=by
  have:=Vk hck hp s.back s.wait ⟨h7.2.2.2.2.1,h7.2.2.2.2.2.1,h7.2.2.2.2.2.2.1,h7.2.2.2.2.2.2.2.1⟩;exact⟨this.1,this.2,rfl⟩
 unfold Cm
 split
 ·exact hL
 ·split
  ·unfold TZ
   split
   ·have:=Vk hck hp 0 0 (by decide);exact⟨this.1,this.2,rfl⟩
   ·exact hL
  ·rename_i hn;have ht:CK s c<4:=Int.lt_of_not_ge fun h=>hn (.inr h)
   unfold Nm
   split
   ·have hpw:=(Aei (min (s.back+1) 5)).resolve_left (by omega) |>.resolve_left (by omega);have hsd:0<=Bw s.Cq/\Bw s.Cq<=2147483647:=by unfold Bw;omega
    refine⟨VL hck hp ht (min (s.back+1) 5) (Bw s.Cq/65536 % 2^(min (s.back+1) 5).toNat) (Bw s.Cq) ⟨by omega,by omega,?_,?_⟩ hsd,Akd _,rfl⟩
    ·exact Int.emod_nonneg _ (by omega)
    ·have:=Int.emod_lt_of_pos (Bw s.Cq/65536) (show 0<(2:Int)^(min (s.back+1) 5).toNat by omega);omega
   ·exact⟨VL hck hp ht s.back s.wait s.Cq ⟨h7.2.2.2.2.1,h7.2.2.2.2.2.1,h7.2.2.2.2.2.2.1,h7.2.2.2.2.2.2.2.1⟩ h7.2.2.2.2.2.2.2.2,Akd _,rfl⟩
theorem Yk {α:Type} [Inhabited α] {k:α->Int} {l:List α} (h:OA k l):l.Pairwise fun a b=>k a<k b:=by
 refine List.pairwise_iff_getElem.2 fun i j hi hj hij=>?_
 have:=h i j hij hj;rw[Ajt,Ajt,AjC hi,AjC hj] at this;exact this
theorem Yu {α:Type} [Inhabited α] {k:α->Int} {l:List α} (h:l.Pairwise fun a b=>k a<k b):OA k l:=by
 intro i j hij hj;have:=List.pairwise_iff_getElem.1 h i j (by omega) hj hij;rw[Ajt,Ajt,AjC (show i<l.length by omega),AjC hj];exact this
theorem Qi {α:Type} [Inhabited α] {k:α->Int} {l:List α} (x:α) (h:OA k l):OA k (GI k l x):=by
 refine Yu ?_;have hp:=Yk h;unfold GI;rw[List.pairwise_append];refine⟨hp.filter _,List.pairwise_cons.2 ⟨fun a ha=>AjT (Aj3.1 ha).2,hp.filter _⟩,fun a ha b hb=>?_⟩;have h1:=AjT (Aj3.1 ha).2;rcases AjO.1 hb with rfl|hb
 ·exact h1
 ·have h2:=AjT (Aj3.1 hb).2;omega
theorem UF {α:Type} {k:α->Int} {l:List α} {x y:α} (h:y∈GI k l x):y=x\/y∈l:=by
 unfold GI at h;rcases List.mem_append.1 h with h|h
 ·exact .inr (Aj3.1 h).1
 ·rcases AjO.1 h with h|h
  ·exact .inl h
  ·exact .inr (Aj3.1 h).1
theorem Aa3 {l:List Sn} (h:∀x∈l,0<=x.node/\x.node<=31/\0<=x.seq/\x.seq<=255) (hr:OA Sn.node l):Gn l=true:=by
 unfold Gn;rw[DB fun i hi=>?_]
 ·rfl
 refine Ajv ?_;have h1:=h _ (BS hi);rintro(h2|h2|⟨h0,h2⟩)
 ·omega
 ·omega
 ·have:=hr (i-1) i (by omega) hi;omega
theorem Wh {l:List Int} (h:∀x∈l,0<=x/\x<=31) (hr:OA id l):C4 l=true:=by
 unfold C4;rw[DB fun i hi=>?_]
 ·rfl
 refine Ajv ?_;have h1:=h _ (BS hi);rintro(h2|h2|⟨h0,h2⟩)
 ·omega
 ·omega
 ·have h3:l.getD (i-1) default<l.getD i default:=hr (i-1) i (by omega) hi;omega
theorem Acy {l:List Hd} {i j:Nat} {x:Hd} (hi:i<l.length):(l.set i x).getD j default=if i=j then x else l.getD j default:=by
 rw[Ajt,List.getElem?_set]
 split
 ·first|rfl|(rw[Akc hi];rfl)
 ·rw[<-Ajt]
theorem Zr {l:List Hd} (h:F0 l=true) {i:Nat} (hi:i<l.length) {a:List Int} (ha:C4 a=true):F0 (l.set i {l.getD i default with AH:=a})=true:=by
 obtain⟨h1,h2⟩:=Ds h;have hfl:∀j,((l.set i {l.getD i default with AH:=a}).getD j default).BR=(l.getD j default).BR/\((l.set i {l.getD i default with AH:=a}).getD j default).data=(l.getD j default).data:=by
  intro j;rw[Acy hi]
  split
  ·rename_i e;subst e;exact⟨rfl,rfl⟩
  ·exact⟨rfl,rfl⟩
 have hrg:∀j,j<l.length->Ex ((l.set i {l.getD i default with AH:=a}).getD j default)=true:=by
  intro j hj;rw[Acy hi];have h3:=DE (h2 j hj).1
  split
  ·rename_i e;subst e;unfold Ex;rw[ha,Bool.and_true];exact Aju ⟨h3.1,h3.2.1,h3.2.2.1,h3.2.2.2.1,h3.2.2.2.2.1,h3.2.2.2.2.2.1⟩
  ·exact(h2 j hj).1
 unfold F0;rw[AjJ,DB fun j hj=>?_]
 ·simp;omega
 refine Ajv ?_;rw[hrg j hj,(hfl j).1,(hfl (j-1)).1,(hfl j).2];have h4:=h2 j hj;rintro(h5|h5|⟨h0,h5⟩)
 ·cases h5
 ·omega
 ·have:=h4.2.2 h0;omega
theorem AbO {c:TC} {self len:Int} (h:JV c self len=0):(c.kind=1\/c.kind=2\/c.kind=3)/\(c.kind≠3->0<=c.peer/\c.peer<=31/\c.peer≠self):=by
 unfold JV at h
 split at h
 ·cases h
 ·rename_i h1
  split at h
  ·cases h
  ·split at h
   ·cases h
   ·rename_i h3;refine⟨by omega,fun h4=>?_⟩;simp only[not_or,not_and] at h3;have h5:=h3.2.2.1 h4;have h6:Dn c.peer=true:=by simpa using h5.1
    have h7:=AjT h6;exact⟨h7.1,by omega,h5.2⟩
def VP (n:Int) (c:TC):Prop:=c=noC\/(c.kind=1\/c.kind=2\/c.kind=3)/\(c.kind≠3->0<=c.peer/\c.peer<=31/\c.peer≠n)
theorem AcS (t:Tb) (slot:Int) (h:BV t=0):VP t.node (atM t slot).1:=by
 unfold atM
 split
 ·exact .inl rfl
 ·split
  ·rename_i i hf;obtain⟨hi,_,_⟩:=Bs hf;refine .inr (AbO (len:=t.len) ?_);have hl:=B4 h;unfold BV at h;rw[Akb (by rw[hl.2.2.2];simp;omega),Akb (by omega)] at h;have:=KP h i hi;unfold I5 at this
   split at this
   ·rename_i h1;exact absurd this h1
   ·rename_i h1;simpa using h1
  ·exact .inl rfl
theorem Aet {t:Tb} (h:BV t=0):0<=t.node/\t.node<=31:=by
 have:=AjT (B4 h).2.2.2;omega
def acF (a:Ac):Fr:=⟨a.BM,a.source,a.target,a.list,a.seq,a.BR,a.number,a.err,a.slot,a.rank,a.epoch,a.data⟩
theorem Aau {s:Sta} {slot:Int} {c:TC} (hck:AU s=0) (hc:VP s.tb.node c) (k1:(CA s slot c).kind=1):
  okP (acF (CA s slot c))/\(CA s slot c).data.size<=100/\((CA s slot c).BM=1\/(CA s slot c).BM=4)/\(CA s slot c).source=s.tb.node/\(c.send=true\/c.kind=3)/\(c.kind≠3->(CA s slot c).target=c.peer):=by
 obtain⟨h1,h2,h3,h4,h5,h6,h7⟩:=Ba hck;have h7:=EI h7;have hn:=Aet h1;by_cases k2:(CA s slot c).BM=1
 ·obtain⟨e1,e2,i,hf,_,_,ha⟩:=LF k1 k2;obtain⟨hi,_,_⟩:=Bs hf;have hH:=(Ds h4).2 i hi;have hr:=DE hH.1;have hp:0<=c.peer/\c.peer<=31/\c.peer≠s.tb.node:=by
   rcases hc with hc|hc
   ·rw[hc] at e1;cases e1
   ·exact hc.2 (by omega)
  rw[ha];refine⟨⟨⟨hn,⟨h7.1,h7.2.1⟩,?_,?_⟩,.inl ⟨rfl,hp,⟨hr.1,hr.2.1⟩,⟨hr.2.2.1,hr.2.2.2.1⟩,rfl,rfl,rfl,rfl⟩⟩,hH.2.1,.inl rfl,rfl,.inl e2,fun _=>rfl⟩
  ·show 0<=(s.held.getD i default).frame % 256;omega
  ·show(s.held.getD i default).frame % 256<=255;omega
 ·obtain⟨_,hm,ha,hk⟩:=Uy hck k1 k2;obtain⟨i,hi,he⟩:=CI hm;have hfo:=Vq (p:=BG s c) (by rw[<-he];exact(El h2 hi).1);have hb:=AjU (h3 _ hm);rw[ha];refine⟨⟨⟨hn,⟨h7.1,h7.2.1⟩,h7.2.2.1,h7.2.2.2.1⟩,.inr (.inr (.inr ⟨rfl,?_,rfl,rfl,rfl,rfl,rfl,rfl⟩))⟩,?_,.inr rfl,rfl,?_,fun k3=>?_⟩
  ·show(BG s c).to=-1\/0<=(BG s c).to/\(BG s c).to<=31/\(BG s c).to≠s.tb.node;omega
  ·show(BG s c).data.size<=100;omega
  ·rcases hk with hk|hk
   ·exact .inl hk.2.1
   ·exact .inr hk.1
  ·rcases hk with hk|hk
   ·show(BG s c).to=c.peer;have hs:BG s c=(C1 s.qu c.peer).1:=by rw[BG,Akb k3]
    rw[hs];cases hf:TP s.qu.Ab c.peer with
    |none=>have:=hk.2.2;rw[He h2 hf] at this;cases this
    |some j=>
     rw[Hc h2 hf];obtain⟨_,hj,_⟩:=Bs hf;exact AjT hj
   ·exact absurd hk.1 k3
def upF (u:Up):Fr:=⟨u.BM,u.source,u.target,u.list,u.seq,u.BR,u.number,u.err,u.slot,u.rank,u.epoch,u.data⟩
theorem AeM {f:Fr} {n:Int} (h:ML f n=true):okP f:=by
 unfold ML at h;rw[AjE] at h;exact(Fy f).1 (AjT h.1)
theorem AbH {s:Sta} (f:Fr) (hck:AU s=0):Acm s (BE s f).1/\((BE s f).2.some=true->upF (BE s f).2=f/\ML f s.tb.node=true):=by
 obtain⟨h1,h2,h3,h4,h5,h6,h7⟩:=Ba hck;have hid:Acm s s:=⟨hck,Akd _,rfl⟩;unfold BE
 split
 ·exact⟨hid,fun h=>by cases h⟩
 ·rename_i hn;have hf:ML f s.tb.node=true:=by
   cases h:ML f s.tb.node with
   |true=>rfl
   |false=>exact absurd (.inl h) hn
  have hok:=AeM hf
  split
  ·exact⟨hid,fun _=>⟨rfl,hf⟩⟩
  ·split
   ·refine⟨⟨?_,Akd _,rfl⟩,fun _=>⟨rfl,hf⟩⟩;refine Ce h1 (Ez hck (List.Sublist.refl _) rfl rfl) h4 (Aa3 (fun x hx=>?_) (Qi _ (LZ h5))) h6 h7;rcases UF hx with rfl|hx
    ·exact⟨hok.1.1.1,hok.1.1.2,hok.1.2.2.1,hok.1.2.2.2⟩
    ·obtain⟨i,hi,rfl⟩:=CI hx;have:=OV h5 i hi;exact⟨this.1,this.2.1,this.2.2.1,this.2.2.2.1⟩
   ·exact⟨hid,fun _=>⟨rfl,hf⟩⟩
theorem Ac1 {s:Sta} {slot:Int} {c:TC} (hck:AU s=0) (k2:(CA s slot c).kind=2):Acm s (Ju s c):=by
 obtain⟨h1,h2,h3,h4,h5,h6,h7⟩:=Ba hck;have h7:=EI h7;unfold Ju
 split
 ·rename_i hw;have hw0:s.wait≠0:=by
   intro h0;unfold CA at k2;rw[Mq] at k2;unfold GU at k2;rw[Akb (by omega),Akb (by omega),Akc hw.2] at k2;unfold XB at k2;rw[Akc ⟨hw.1,h0⟩] at k2;cases k2
  refine⟨Ce h1 (Ez hck (List.Sublist.refl _) rfl rfl) h4 h5 h6 (Aju ?_),Akd _,rfl⟩;show 0<=s.list/\s.list<=255/\0<=s.seq/\s.seq<=255/\0<=s.back/\s.back<=5/\0<=s.wait-1/\s.wait-1<=2^s.back.toNat-1/\0<=s.Cq/\s.Cq<=2147483647;have h8:=h7.2.2.2.2.2.2.1;have h9:=h7.2.2.2.2.2.2.2.1;generalize (2:Int)^s.back.toNat=pw at h9 ⊢;exact⟨h7.1,h7.2.1,h7.2.2.1,h7.2.2.2.1,h7.2.2.2.2.1,h7.2.2.2.2.2.1,by omega,by omega,h7.2.2.2.2.2.2.2.2.1,h7.2.2.2.2.2.2.2.2.2⟩
 ·exact⟨hck,Akd _,rfl⟩
theorem Ahf {s:Sta} {slot:Int} {c:TC} (hck:AU s=0) (hc:VP s.tb.node c) (k1:(CA s slot c).kind=1) (k2:(CA s slot c).BM=1):Acm s (Ack s (CA s slot c)):=by
 obtain⟨h1,h2,h3,h4,h5,h6,h7⟩:=Ba hck;obtain⟨e1,e2,i,hf,_,_,ha⟩:=LF k1 k2;have hp:0<=c.peer/\c.peer<=31/\c.peer≠s.tb.node:=by
  rcases hc with hc|hc
  ·rw[hc] at e1;cases e1
  ·exact hc.2 (by omega)
 have htg:(CA s slot c).target=c.peer:=by rw[ha];rfl
 unfold Ack
 split
 ·exact⟨hck,Akd _,rfl⟩
 ·rename_i j hj;obtain⟨hi,_,_⟩:=Bs hj;have hr:=(DE ((Ds h4).2 j hi).1).2.2.2.2.2.2;refine⟨Ce h1 (Ez hck (List.Sublist.refl _) rfl rfl) (Zr h4 hi (Wh (fun x hx=>?_) (Qi _ (L6 fun k hk h0=>(Gq hr k hk).2.2 h0)))) h5 h6 h7,Akd _,rfl⟩;rcases UF hx with rfl|hx
  ·rw[htg];exact⟨hp.1,hp.2.1⟩
  ·obtain⟨k,hk,rfl⟩:=CI hx;have:=Gq hr k hk;exact⟨this.1,this.2.1⟩
theorem AeW {s:Sta} {slot:Int} {c:TC} (r:Rs) (hck:AU s=0) (hc:VP s.tb.node c):
  Acm s (Cp s slot c r).1/\((Cp s slot c r).2.some=true->(CA s slot c).kind=2/\r.heard=true/\upF (Cp s slot c r).2=IH r/\ML (IH r) s.tb.node=true):=by
 have hid:Acm s s:=⟨hck,Akd _,rfl⟩;unfold Cp
 split
 ·rename_i hk
  split
  ·exact⟨Ahf hck hc hk.1 hk.2,fun h=>by cases h⟩
  ·exact⟨hid,fun h=>by cases h⟩
 ·rename_i hk
  split
  ·rename_i k1;exact⟨AaT _ hck (Uy hck k1 (fun k2=>hk ⟨k1,k2⟩)).2.1,fun h=>by cases h⟩
  ·split
   ·rename_i k2;have hw:=Ac1 hck k2
    split
    ·rename_i hh;have hq:=AbH (IH r) hw.1;refine⟨⟨hq.1.1,Akn hq.1.2.1 hw.2.1,hq.1.2.2.trans hw.2.2⟩,fun h=>?_⟩;have:=hq.2 h;rw[hw.2.2] at this;exact⟨k2,hh,this⟩
    ·exact⟨hw,fun h=>by cases h⟩
   ·exact⟨hid,fun h=>by cases h⟩
end Go.Proofs
namespace Go.Proofs.M
open Go Go.Sx Go.Proofs Go.Proofs.T Go.Proofs.Q
open Go.Proofs.P (Nb nbs Rk rkA rkErr checkNb hearM countM forgetM select')
open Go.Proofs.R (startM advM)
theorem Qq {s:Sta} (h1:BV s.tb=0) (h2:CS s=true) (h3:F0 s.held=true) (h4:Gn s.seen=true) (h5:(s.A6=-1/\s.tries=0)\/(0<=s.A6/\1<=s.tries/\s.tries<4)) (h6:Ti s=true):
  AU (Dl s)=0/\(Dl s).tb=s.tb/\(Dl s).qu=s.qu:=by
 unfold Dl
 split
 ·exact⟨Ce h1 h2 h3 h4 (Aju (.inl ⟨rfl,rfl⟩)) h6,rfl,rfl⟩
 ·rename_i hn;refine⟨Ce h1 h2 h3 h4 (Aju ?_) h6,rfl,rfl⟩;rcases h5 with h5|h5
  ·exact .inl h5
  ·refine .inr ⟨h5.1,?_,h5.2⟩;cases hh:hasB s.qu.Ab s.A6 with
   |true=>rfl
   |false=>exact absurd ⟨h5.1,hh⟩ hn
theorem Qk {s:Sta} (h:I4 s=true):(s.A6=-1/\s.tries=0)\/(0<=s.A6/\1<=s.tries/\s.tries<4):=by
 have h:=AjT h;rcases h with h|h
 ·exact .inl h
 ·exact .inr ⟨h.1,h.2.2⟩
theorem Rr {l:List Hd} (h:F0 l=true) (p:Hd->Bool):F0 (l.filter p)=true:=by
 obtain⟨h1,h2⟩:=Ds h;have hr:OA Hd.BR l:=Zp h;have hr2:OA Hd.BR (l.filter p):=Yu ((Yk hr).filter _);have hle:(l.filter p).length<=l.length:=Aj4 _ _;unfold F0;rw[DB fun i hi=>?_,Aju (show(((l.filter p).length:Nat):Int)<=16 by omega)]
 ·rfl
 refine Ajv ?_;obtain⟨k,hk,e⟩:=CI (Aj3.1 (BS hi)).1;have h3:=h2 k hk;rw[e] at h3;rintro(h4|h4|⟨h0,h4⟩)
 ·rw[h3.1] at h4;cases h4
 ·omega
 ·have:=hr2 (i-1) i (by omega) hi;omega
theorem Ud {s:Sta} {slot:Int} (hck:AU s=0) (hs:0<=slot/\slot<=109951162):(Cj s slot).2.2=0/\AU (Cj s slot).1=0/\(Cj s slot).1.tb=s.tb/\(Cj s slot).1.qu.Ab=EZ s.qu.Ab slot:=by
 obtain⟨h1,h2,h3,h4,h5,h6,h7⟩:=Ba hck;unfold Cj;rw[Akb (by omega),Akb (by omega)];have hq:(BX s.qu slot).1=⟨s.qu.Be,EZ s.qu.Ab slot⟩:=by unfold BX;rw[Akb (by omega)]
 have hp:CS {s with held:=s.held.filter fun h=>!decide (h.til<slot),qu:=(BX s.qu slot).1}=true:=Ez hck (List.filter_sublist) rfl hq;obtain⟨r1,r2,r3⟩:=Qq (s:={s with held:=s.held.filter fun h=>!decide (h.til<slot),qu:=(BX s.qu slot).1}) h1 hp (Rr h4 _) h5 (Qk (s:=s) h6) h7;refine⟨rfl,r1,r2,?_⟩;show(Dl _).qu.Ab=_;rw[r3,hq]
theorem Yw {s:Sta} {p:Pk} (hck:AU s=0) (h0:(Ia s p).2.2=0):AU (Ia s p).1=0/\(Ia s p).1.tb=s.tb/\(Ia s p).1.qu=(DP s.qu p).1:=by
 obtain⟨h1,h2,h3,h4,h5,h6,h7⟩:=Ba hck;unfold Ia at h0 ⊢;rw[Akb (by omega)] at h0 ⊢;by_cases e1:(DP s.qu p).2.2=0
 ·rw[Akb (by omega)] at h0 ⊢;by_cases e2:p.to=s.tb.node
  ·rw[Akc e2] at h0;cases h0
  ·rw[Akb e2] at h0 ⊢;by_cases e3:100<p.data.size
   ·rw[Akc e3] at h0;cases h0
   ·rw[Akb e3];have hq:=Q.Aeh h2 e1;have hlim:=hq.2.1;have hcq:Br (DP s.qu p).1=0:=by
     have:=QW hq.2.2.1;rw[<-hlim] at this;exact this
    have hp:CS {s with qu:=(DP s.qu p).1}=true:=by
     unfold CS;rw[show({s with qu:=(DP s.qu p).1}:Sta).qu=(DP s.qu p).1 from rfl,hcq,AjN.2 fun x hx=>?_]
     ·rfl
     ·rcases Abk h2 e1 hx with rfl|hx
      ·show ¬VB s.tb.node x=true;unfold VB;simp only[Ajw];omega
      ·rw[show({s with qu:=(DP s.qu p).1}:Sta).tb=s.tb from rfl,h3 x hx];simp
    have:=Qq (s:={s with qu:=(DP s.qu p).1}) h1 hp h4 h5 (Qk (s:=s) h6) h7;exact⟨this.1,this.2.1,this.2.2⟩
 ·rw[Akc e1] at h0;exact absurd h0 e1
theorem Ly {s:Sta} {slot:Int} (r:Rs) (hck:AU s=0) (hs:0<=slot/\slot<=109951162):ED s slot r=((Cp s slot (atM s.tb slot).1 r).1,(Cp s slot (atM s.tb slot).1 r).2,0) /\
  Acm s (Cp s slot (atM s.tb slot).1 r).1:=by
 refine⟨?_,(AeW r hck (AcS s.tb slot (Ba hck).1)).1⟩;unfold ED;rw[Akb (by omega),Akb (by omega)]
theorem Abb {s:Sta} {old new:Int} (hck:AU s=0) (hn:-1<=new/\new<=31) (hne:new≠s.tb.node):AU {s with qu:=⟨s.qu.Be,s.qu.Ab.map (Ec old new)⟩}=0:=by
 obtain⟨h1,h2,h3,h4,h5,h6,h7⟩:=Ba hck;have hid:∀p,(Ec old new p).id=p.id/\(Ec old new p).prio=p.prio/\(Ec old new p).data=p.data:=fun p=>by unfold Ec;split<;>exact⟨rfl,rfl,rfl⟩
 have hok:=YJ h2;have hcq:Br ⟨s.qu.Be,s.qu.Ab.map (Ec old new)⟩=0:=by
  refine QW ⟨hok.bnd,by rw[AjK];exact hok.len,fun x hx=>?_,?_⟩
  ·obtain⟨p,hp,rfl⟩:=Aj5.1 hx;have hf:=hok.form p hp;unfold Ec
   split
   ·rename_i ht;unfold Eo at hf ⊢;by_cases hnn:p.id<0\/inI p.to (-1) 31=false\/inI p.prio 0 3=false\/inI p.born 0 1099511627776=false\/inI p.AcC 1 4096=false
    ·rw[Akc hnn] at hf;cases hf
    ·rw[Akb hnn] at hf;rw[Akb]
     ·exact hf
     ·rintro(g|g|g)
      ·exact hnn (.inl g)
      ·have:inI new (-1) 31=true:=Aju hn;rw[show inI ({p with to:=new}:Pk).to (-1) 31=inI new (-1) 31 from rfl,this] at g;cases g
      ·exact hnn (.inr (.inr g))
   ·exact hf
  ·rw[List.pairwise_map];exact hok.pair.imp fun{a b} h=>by rw[(hid a).1,(hid b).1,(hid a).2.1,(hid b).2.1];exact h
 refine Ce h1 ?_ h4 h5 ?_ h7
 ·unfold CS;rw[show({s with qu:=⟨s.qu.Be,s.qu.Ab.map (Ec old new)⟩}:Sta).qu=⟨s.qu.Be,s.qu.Ab.map (Ec old new)⟩ from rfl,hcq,AjN.2 fun x hx=>?_]
  ·rfl
  ·obtain⟨p,hp,rfl⟩:=Aj5.1 hx;have:=AjU (h3 p hp);show ¬VB s.tb.node (Ec old new p)=true;unfold VB;simp only[Ajw];rw[(hid p).2.2];unfold Ec
   split
   ·show ¬(new=_\/_);omega
   ·omega
 ·have h6:=AjT h6;refine Aju ?_;rcases h6 with h6|h6
  ·exact .inl h6
  ·refine .inr ⟨h6.1,?_,h6.2.2⟩;show hasB (s.qu.Ab.map (Ec old new)) s.A6=true;rw[<-h6.2.1];unfold hasB;rw[List.any_map]
   congr 1
   funext p
   exact decide_eq_decide.2 (by show(Ec old new p).id=_↔_;rw[(hid p).1])
structure RN (n:Nat) (T:Tb) (i:Nat) (x:MN):Prop where
 st:AU x.st=0
 nd:x.st.tb.node=i
 len:x.st.tb.len=T.len
 sp:FE x.st.tb=FE T
 rk:rkErr x.rk=0
 rn:x.rk.node=i
 rp:x.rk.parent<n
 nb:checkNb x.nb=0
 nn:∀y∈x.nb,y.node<n
 nx:0<=x.next/\x.next<=65535
theorem H6 {m:Me} {i:Nat}:D4 m i=true↔RN m.nodes.length (m.nodes.getD 0 default).st.tb i (m.nodes.getD i default):=by
 unfold D4;simp only[AjE,Ajw,Bool.not_eq_true',AjN];constructor
 ·rintro⟨⟨⟨⟨a1,a2,a3,a4⟩,b1,b2,b3,b4⟩,c⟩,d⟩;exact⟨a1,a2,a3,a4,b1,b2,b3,b4,fun y hy=>by have:=c y hy;omega,d⟩
 ·intro h;exact⟨⟨⟨⟨h.st,h.nd,h.len,h.sp⟩,h.rk,h.rn,h.rp,h.nb⟩,fun y hy=>by have:=h.nn y hy;omega⟩,h.nx⟩
structure Hdr (m:Me):Prop where
 n1:1<=m.nodes.length
 n2:m.nodes.length<=32
 s1:0<=m.slot
 s2:m.slot<=16384
 t1:1<=m.turns
 t2:m.turns<=32
 a1:m.arr.length<=4096
theorem DG {m:Me}:B6 m=0↔Hdr m/\∀i,i<m.nodes.length->RN m.nodes.length (m.nodes.getD 0 default).st.tb i (m.nodes.getD i default):=by
 unfold B6;constructor
 ·intro h
  split at h
  ·cases h
  ·rename_i hn
   split at h
   ·cases h
   ·rename_i ha;refine⟨⟨by omega,by omega,by omega,by omega,by omega,by omega,by omega⟩,fun i hi=>?_⟩;rw[<-H6];rw[Aj7,AjN] at ha;have:=ha i (Aj2.2 hi);simpa using this
 ·rintro⟨h,hr⟩;have:=h.n1;have:=h.n2;have:=h.s1;have:=h.s2;have:=h.t1;have:=h.t2;have:=h.a1;rw[Akb (by omega),Akb];rw[Aj7,AjN];intro i hi;rw[H6.2 (hr i (Aj2.1 hi))];simp
theorem RN.Aa1 {n:Nat} {T:Tb} {i:Nat} {x:MN} (h:RN n T i x) {s:Sta} (hc:AU s=0) (ht:s.tb=x.st.tb):RN n T i {x with st:=s}:=
 ⟨hc,by show s.tb.node=_;rw[ht];exact h.nd,by show s.tb.len=_;rw[ht];exact h.len,by show FE s.tb=_;rw[ht];exact h.sp,h.rk,h.rn,h.rp,h.nb,h.nn,h.nx⟩
theorem AcL {n:Nat} {T:Tb} {i:Nat} {x:MN} {slot:Int} (h:RN n T i x) (hs:0<=slot/\slot<=109951162):RN n T i (MX slot x):=by
 obtain⟨h1,h2,h3,_⟩:=Ud h.st hs;unfold MX;rw[Akc h1];exact h.Aa1 h2 h3
theorem Zy {n:Nat} {T:Tb} {i:Nat} {x:MN} {slot:Int} (d:ByteArray) (h:RN n T i x):RN n T i (G8 slot x d):=by
 unfold G8
 split
 ·exact h
 ·split
  ·rename_i h0;obtain⟨h1,h2,_⟩:=Yw h.st h0;have:=h.Aa1 h1 h2;have hx:=h.nx;exact⟨this.st,this.nd,this.len,this.sp,h.rk,h.rn,h.rp,h.nb,h.nn,by show 0<=(x.next+1) % 65536/\(x.next+1) % 65536<=65535;omega⟩
  ·exact h
theorem TE {n:Nat} {T:Tb} {i:Nat} {slot j:Int}:∀(ls:List Ld) {x:MN},RN n T i x->RN n T i (E9 slot j ls x)
 |[],_,h=>h
 |l :: ls,x,h=>by
  unfold E9
  split
  ·exact TE ls (Zy _ h)
  ·exact TE ls h
theorem Ahe {n:Nat} {T:Tb} {i:Nat} {x:MN} {slot turns:Int} (h:RN n T i x):RN n T i (DS slot turns x).1:=by
 unfold DS
 split
 ·rename_i hd;have hk:x.rk.rank≠65535:=fun e=>by
   have:=hd.2;unfold advM at this;rw[Akb (by have:=h.rk;omega),Akc e] at this;cases this
  obtain⟨_,a2,_,_,_,a6⟩:=R.Sg h.rk hk;refine⟨h.st,h.nd,h.len,h.sp,a6,?_,?_,h.nb,h.nn,h.nx⟩
  ·show(advM x.rk).1.node=_;rw[a2];exact h.rn
  ·show(advM x.rk).1.parent<_;rw[a2];exact h.rp
 ·exact h
theorem VN {n:Nat} {T:Tb} {i:Nat} {x:MN} {slot turns:Int} (h:RN n T i x) (hi:i<=31) (hs:0<=slot/\slot<=109951162) (k1:(DS slot turns x).2.1.kind=1):
  (DS slot turns x).2.1.source=i/\Fk (PV (DS slot turns x).2.1)=0/\((DS slot turns x).2.1.BM=3↔(DS slot turns x).2.2=true) /\
   ((DS slot turns x).2.2=true->(DS slot turns x).2.1.target=-1/\PV (DS slot turns x).2.1=bcF x.rk slot/\x.rk.rank≠65535):=by
 unfold DS at k1 ⊢
 split
 ·rename_i hd;have hk:x.rk.rank≠65535:=fun e=>by
   have:=hd.2;unfold advM at this;rw[Akb (by have:=h.rk;omega),Akc e] at this;cases this
  obtain⟨_,_,a3,a4,a5,_⟩:=R.Sg h.rk hk;have hb:=Aam (src:=i) (slot:=slot.toNat) (rank:=x.rk.rank.toNat) (epoch:=x.rk.epoch.toNat) (d:=AaA false) hi (by omega) (by omega) (by omega);have e:bcn i slot.toNat x.rk.rank.toNat x.rk.epoch.toNat (AaA false)=bcF x.rk slot:=by
   unfold bcn bcF;rw[h.rn,show((slot.toNat:Nat):Int)=slot by omega,show((x.rk.rank.toNat:Nat):Int)=x.rk.rank by omega,show((x.rk.epoch.toNat:Nat):Int)=x.rk.epoch by omega]
  rw[e] at hb;exact⟨h.rn,hb,⟨fun _=>rfl,fun _=>rfl⟩,fun _=>⟨rfl,rfl,hk⟩⟩
 ·rename_i hd;rw[Akb hd] at k1;dsimp only at k1 ⊢;have ha:Hs x.st slot=(CA x.st slot (atM x.st.tb slot).1,0):=by
   unfold Hs;rw[Akb (by have:=h.st;omega),Akb (by omega)]
  rw[ha] at k1 ⊢;obtain⟨f1,f2,f3,f4,_⟩:=Aau h.st (AcS x.st.tb slot (Ba h.st).1) k1;refine⟨f4.trans h.nd,(Fy _).2 f1,⟨fun h3=>?_,fun h3=>(by cases h3)⟩,fun h3=>(by cases h3)⟩;dsimp only at h3;rcases f3 with f3|f3<;>omega
theorem EW (f:Wk->Wk):∀(l:List Wk) (arr:List Ar),BL (fun a w=>(a,f w)) arr l=(arr,l.map f)
 |[],_=>rfl
 |w :: l,arr=>by
  unfold BL;rw[EW f l arr];rfl
theorem CY {α:Type} [Inhabited α] {n i:Nat} (f:Nat->α) (h:i<n):((List.range n).map f).getD i default=f i:=by
 simp[Ajt,h]
theorem RH {α:Type} [Inhabited α] {l:List α} {n:Nat} {f:Nat->α} (hl:l.length=n) (h:∀i,i<n->l.getD i default=f i):l=(List.range n).map f:=by
 refine List.ext_getElem (by simp[hl]) fun i h1 h2=>?_
 have:=h i (by omega);rw[Ajt,AjC h1] at this;simpa using this
def Np (m:Me) (loads:List Ld) (i:Nat):MN:=E9 m.slot i loads (MX m.slot (m.nodes.getD i default))
def wk1 (m:Me) (loads:List Ld) (i:Nat):Wk:=⟨(DS m.slot m.turns (Np m loads i)).1,i,(DS m.slot m.turns (Np m loads i)).2.1,(DS m.slot m.turns (Np m loads i)).2.2,zRs,zUp⟩
theorem Mm (m:Me) (loads:List Ld):Fh m loads=(List.range m.nodes.length).map (wk1 m loads):=by
 have e1:=EW (fun w=>{w with nd:=MX m.slot w.nd}) (DI m) [];have e2:=EW (fun w=>{w with nd:=E9 m.slot w.node loads w.nd}) ((DI m).map fun w=>{w with nd:=MX m.slot w.nd}) [];have e3:=EW (fun w=>{w with nd:=(DS m.slot m.turns w.nd).1,ac:=(DS m.slot m.turns w.nd).2.1,bc:=w.bc||(DS m.slot m.turns w.nd).2.2}) (((DI m).map fun w=>{w with nd:=MX m.slot w.nd}).map fun w=>{w with nd:=E9 m.slot w.node loads w.nd}) [];show(BL (fun a w=>(a,{w with nd:=(DS m.slot m.turns w.nd).1,ac:=(DS m.slot m.turns w.nd).2.1,bc:=w.bc||(DS m.slot m.turns w.nd).2.2})) [] (BL (fun a w=>(a,{w with nd:=E9 m.slot w.node loads w.nd})) [] (BL (fun a w=>(a,{w with nd:=MX m.slot w.nd})) [] (DI m)).2).2).2=_;rw[e1];show(BL (fun a w=>(a,{w with nd:=(DS m.slot m.turns w.nd).1,ac:=(DS m.slot m.turns w.nd).2.1,bc:=w.bc||(DS m.slot m.turns w.nd).2.2})) [] (BL (fun a w=>(a,{w with nd:=E9 m.slot w.node loads w.nd})) [] ((DI m).map fun w=>{w with nd:=MX m.slot w.nd})).2).2=_;rw[e2];show(BL (fun a w=>(a,{w with nd:=(DS m.slot m.turns w.nd).1,ac:=(DS m.slot m.turns w.nd).2.1,bc:=w.bc||(DS m.slot m.turns w.nd).2.2})) [] (((DI m).map fun w=>{w with nd:=MX m.slot w.nd}).map fun w=>{w with nd:=E9 m.slot w.node loads w.nd})).2=_;rw[e3];unfold DI;simp only[AkO]
 rfl
def Eu (sil:List Si) (slot:Int) (X:List Wk) (i:Nat):Option Nat:=
 if(X.getD i default).ac.kind≠2 then none else match BH sil slot X i with
  |[j]=>some j
  |_=>none
def AaC (sil:List Si) (slot:Int) (X:List Wk) (i j:Nat):Bool:=
 decide (Eu sil slot X i=some j)&&decide ((X.getD j default).ac.target=(X.getD i default).node)&&Ei sil (X.getD i default).node (X.getD j default).node slot
def rsK (sil:List Si) (slot:Int) (X:List Wk) (k j:Nat):Rs:=
 if(X.getD j default).ac.kind=2 then
  match (if j<k then Eu sil slot X j else none) with
  |some s=>ZE (PV (X.getD s default).ac)
  |none=>(X.getD j default).rs
 else{(X.getD j default).rs with AH:=(X.getD j default).rs.AH||(List.range k).any fun i=>AaC sil slot X i j}
theorem Ji {sil:List Si} {slot:Int} {X:List Wk} {i j:Nat} (h:Eu sil slot X i=some j):(X.getD i default).ac.kind=2/\j<X.length/\(X.getD j default).ac.kind=1/\j≠i:=by
 unfold Eu at h
 split at h
 ·cases h
 ·rename_i hk
  split at h
  ·rename_i q hs;injection h with h
   subst h;have hm:q∈BH sil slot X i:=by rw[hs];simp
   unfold BH at hm;rw[Aj3,Aj2] at hm;simp only[AjE,Ajw] at hm;exact⟨by omega,hm.1,hm.2.1.1.2,hm.2.1.1.1⟩
  ·cases h
structure VO (X Y:List Wk):Prop where
 len:Y.length=X.length
 at':∀j,(Y.getD j default).ac=(X.getD j default).ac/\(Y.getD j default).node=(X.getD j default).node
theorem VO.Yb {X Y:List Wk} (h:VO X Y) (sil:List Si) (slot:Int) (i:Nat):BH sil slot Y i=BH sil slot X i:=by
 unfold BH;rw[h.len];refine AkY fun j _=>?_
 rw[(h.at' j).1,(h.at' j).2,(h.at' i).1,(h.at' i).2]
theorem IU (sil:List Si) (slot:Int) (X:List Wk) (i:Nat):Cv sil slot X i=match Eu sil slot X i with
  |some j=>DY sil slot X i j
  |none=>X:=by
 unfold Cv Eu
 split
 ·rfl
 ·split<;>simp_all
theorem AcZ {X:List Wk} {i j:Nat} {w:Wk} (hi:i<X.length):(X.set i w).getD j default=if j=i then w else X.getD j default:=by
 by_cases h:j=i
 ·subst h;simp[Ajt,hi]
 ·simp[Ajt,h,AjR (Ne.symm h)]
theorem My (sil:List Si) (slot:Int) (X:List Wk):∀k,k<=X.length->VO X (Dc sil slot X k)/\∀j,j<X.length->(Dc sil slot X k).getD j default={X.getD j default with rs:=rsK sil slot X k j}
 |0,_=>by
  refine⟨⟨rfl,fun j=>⟨rfl,rfl⟩⟩,fun j hj=>?_⟩;show X.getD j default=_;have e:rsK sil slot X 0 j=(X.getD j default).rs:=by
   unfold rsK;by_cases h2:(X.getD j default).ac.kind=2
   ·rw[Akc h2,Akb (Aj9 _)]
   ·rw[Akb h2,List.range_zero,List.any_nil,AkK]
  rw[e]
 |k+1,hk=>by
  obtain⟨hs,hat⟩:=My sil slot X k (by omega);have hsnd:=hs.Yb sil slot k;have hh:Eu sil slot (Dc sil slot X k) k=Eu sil slot X k:=by
   unfold Eu;rw[hsnd,(hs.at' k).1]
  show VO X (Cv sil slot (Dc sil slot X k) k)/\∀j,j<X.length->(Cv sil slot (Dc sil slot X k) k).getD j default=_;rw[IU,hh];have hstep:∀j,rsK sil slot X (k+1) j=if(X.getD j default).ac.kind=2 then(if j=k then(match Eu sil slot X k with|some s=>ZE (PV (X.getD s default).ac)|none=>(X.getD j default).rs) else rsK sil slot X k j)
    else{rsK sil slot X k j with AH:=(rsK sil slot X k j).AH||AaC sil slot X k j}:=by
   intro j;by_cases h2:(X.getD j default).ac.kind=2
   ·rw[Akc h2];unfold rsK;rw[Akc h2,Akc h2];by_cases hj:j=k
    ·subst hj;rw[Akc (by omega),Akc rfl]
    ·rw[Akb hj];by_cases hj2:j<k
     ·rw[Akc (by omega),Akc hj2]
     ·rw[Akb (by omega),Akb hj2]
   ·rw[Akb h2];unfold rsK;rw[Akb h2,Akb h2,AkN,List.any_append];simp[Bool.or_assoc]
  cases hr:Eu sil slot X k with
  |none=>
   refine⟨hs,fun j hj=>?_⟩;dsimp only;rw[hat j hj,hstep j];have ha:AaC sil slot X k j=false:=by unfold AaC;rw[hr];simp
   rw[ha,hr];by_cases h2:(X.getD j default).ac.kind=2
   ·rw[Akc h2];by_cases hj2:j=k
    ·rw[Akc hj2];have:rsK sil slot X k j=(X.getD j default).rs:=by unfold rsK;rw[Akc h2,Akb (by omega)]
     rw[this]
    ·rw[Akb hj2]
   ·rw[Akb h2,AkK]
  |some q=>
   obtain⟨a1,a2,a3,a4⟩:=Ji hr;have hkl:k<(Dc sil slot X k).length:=by rw[hs.len];omega
   have hql:q<(Dc sil slot X k).length:=by rw[hs.len];omega
   dsimp only;have key:∀j,j<X.length->(DY sil slot (Dc sil slot X k) k q).getD j default={X.getD j default with rs:=rsK sil slot X (k+1) j}/\(DY sil slot (Dc sil slot X k) k q).length=X.length:=by
    intro j hj;unfold DY;rw[(hs.at' q).1,(hs.at' k).2,(hs.at' q).2];have hrk:∀jj,rsK sil slot X k q={(X.getD q default).rs with AH:=(rsK sil slot X k q).AH}:=fun _=>by unfold rsK;rw[Akb (by omega)]
    rw[hstep j]
    split
    ·rename_i hc;have hab:AaC sil slot X k q=true:=by unfold AaC;rw[Aju hr,Aju hc.1,hc.2];rfl
     refine⟨?_,by simp[hs.len]⟩;rw[AcZ (by simpa using hql),hat q (by omega),hat k (by omega)];by_cases e1:j=q
     ·subst e1;rw[Akc rfl,Akb (by omega),hab];simp
     ·rw[Akb e1,AcZ hkl];by_cases e2:j=k
      ·subst e2;rw[Akc rfl,Akc a1,Akc rfl,hr]
      ·rw[Akb e2,hat j hj,Akb e2];by_cases h2:(X.getD j default).ac.kind=2
       ·rw[Akc h2]
       ·rw[Akb h2];have:AaC sil slot X k j=false:=by unfold AaC;rw[hr];simp[Ne.symm e1]
        rw[this,AkK]
    ·rename_i hc;refine⟨?_,by simp[hs.len]⟩;rw[AcZ hkl,hat k (by omega)];by_cases e2:j=k
     ·subst e2;rw[Akc rfl,Akc a1,Akc rfl,hr]
     ·rw[Akb e2,hat j hj,Akb e2];by_cases h2:(X.getD j default).ac.kind=2
      ·rw[Akc h2]
      ·rw[Akb h2];have:AaC sil slot X k j=false:=by
        unfold AaC;rw[hr];by_cases e1:j=q
        ·subst e1;by_cases hh1:(X.getD j default).ac.target=(X.getD k default).node
         ·have:Ei sil (X.getD k default).node (X.getD j default).node slot=false:=by
           cases hx:Ei sil (X.getD k default).node (X.getD j default).node slot with
           |true=>exact absurd ⟨hh1,hx⟩ hc
           |false=>rfl
          rw[this,Ak4]
         ·rw[Ajv hh1];simp
        ·simp[Ne.symm e1]
       rw[this,AkK]
   refine⟨⟨(key 0 (by omega)).2,fun j=>?_⟩,fun j hj=>(key j hj).1⟩;by_cases hj:j<X.length
   ·rw[(key j hj).1];exact⟨rfl,rfl⟩
   ·have hl:=(key 0 (by omega)).2;rw[Ajt,Ajt,Aj0 (by omega),Aj0 (by omega)];exact⟨rfl,rfl⟩
theorem ZB (slot:Int) (a b:List Ar) (w:Wk):(GA slot a w).2=(GA slot b w).2:=by
 unfold GA
 split
 ·rfl
 ·split<;>rfl
theorem Ra (slot:Int):∀(l:List Wk) (arr:List Ar),(BL (GA slot) arr l).2=l.map fun w=>(GA slot [] w).2
 |[],_=>rfl
 |w :: l,arr=>by
  unfold BL;rw[Ra slot l,ZB slot arr []];rfl
theorem ZC {slot:Int} {arr:List Ar} {w:Wk} (h:w.node≠0):(GA slot arr w).1=arr:=by
 unfold GA
 split
 ·rfl
 ·first|rfl|(rw[Akc h])
theorem Rb (slot:Int):∀(l:List Wk) (arr:List Ar),(∀w∈l,w.node≠0)->(BL (GA slot) arr l).1=arr
 |[],_,_=>rfl
 |w :: l,arr,h=>by
  unfold BL;rw[Rb slot l _ fun x hx=>h x (by simp[hx])];exact ZC (h w (by simp))
def wk2 (m:Me) (loads:List Ld) (sil:List Si) (i:Nat):Wk:={wk1 m loads i with rs:=rsK sil m.slot (Fh m loads) m.nodes.length i}
def wk3 (m:Me) (loads:List Ld) (sil:List Si) (i:Nat):Wk:=En (Dm m.slot (Dh m.slot (wk2 m loads sil i)))
def Hp (m:Me) (loads:List Ld) (sil:List Si) (i:Nat):MN:=D0 m.slot (GA m.slot [] (wk3 m loads sil i)).2.nd
theorem Ib (m:Me) (loads:List Ld):(Fh m loads).length=m.nodes.length:=by rw[Mm];simp
theorem HI (m:Me) (loads:List Ld) {i:Nat} (hi:i<m.nodes.length):(Fh m loads).getD i default=wk1 m loads i:=by rw[Mm];exact CY _ hi
theorem QP (m:Me) (loads:List Ld) (sil:List Si):Hk m loads sil=(List.range m.nodes.length).map (wk2 m loads sil):=by
 have hl:=Ib m loads;obtain⟨h1,h2⟩:=My sil m.slot (Fh m loads) m.nodes.length (by omega);refine RH (h1.len.trans hl) fun i hi=>?_
 show(Dc sil m.slot (Fh m loads) m.nodes.length).getD i default=_;rw[h2 i (by omega),HI m loads hi];rfl
theorem YO (slot:Int) (w:Wk):(En (Dm slot (Dh slot w))).node=w.node:=by
 have h1:(Dh slot w).node=w.node:=by
  unfold Dh
  split
  ·rfl
  ·split<;>rfl
 have h2:(Dm slot (Dh slot w)).node=w.node:=by
  unfold Dm
  split<;>exact h1
 unfold En
 split<;>exact h2
theorem UB (m:Me) (loads:List Ld) (sil:List Si) (i:Nat):(wk3 m loads sil i).node=i:=YO _ _
theorem Mk (m:Me) (loads:List Ld) (sil:List Si):(Gs m loads sil).2=(List.range m.nodes.length).map (fun i=>(GA m.slot [] (wk3 m loads sil i)).2) /\
  (Gs m loads sil).1=if 0<m.nodes.length then(GA m.slot m.arr (wk3 m loads sil 0)).1 else m.arr:=by
 have e1:=EW (Dh m.slot) (Hk m loads sil) [];have e2:=EW (fun w=>En (Dm m.slot w)) ((Hk m loads sil).map (Dh m.slot)) [];have e:Gs m loads sil=BL (GA m.slot) m.arr ((List.range m.nodes.length).map (wk3 m loads sil)):=by
  show BL (GA m.slot) m.arr (BL (fun a w=>(a,En (Dm m.slot w))) [] (BL (fun a w=>(a,Dh m.slot w)) [] (Hk m loads sil)).2).2=_;rw[e1];show BL (GA m.slot) m.arr (BL (fun a w=>(a,En (Dm m.slot w))) [] ((Hk m loads sil).map (Dh m.slot))).2=_;rw[e2,QP];simp only[AkO]
  rfl
 rw[e];refine⟨?_,?_⟩
 ·rw[Ra,AkO];rfl
 ·by_cases h0:0<m.nodes.length
  ·rw[Akc h0];obtain⟨n,hn⟩:∃n,m.nodes.length=n+1:=⟨m.nodes.length-1,by omega⟩;rw[hn,List.range_succ_eq_map,Akq,AkO];unfold BL;refine Rb _ _ _ fun w hw=>?_
   obtain⟨i,_,rfl⟩:=Aj5.1 hw;show(wk3 m loads sil (i+1)).node≠0;rw[UB];omega
  ·have:m.nodes.length=0:=by omega
   rw[Akb h0,this];rfl
def Afo (m:Me) (loads:List Ld) (sil:List Si):List Ar:=(Gs m loads sil).1
theorem Jz (m:Me) (loads:List Ld) (sil:List Si):ID m loads sil=⟨(List.range m.nodes.length).map (Hp m loads sil),m.slot+1,m.turns,Afo m loads sil⟩:=by
 have e:=EW (fun w=>{w with nd:=D0 m.slot w.nd}) (Gs m loads sil).2 [];show(⟨((BL (fun a w=>(a,{w with nd:=D0 m.slot w.nd})) [] (Gs m loads sil).2).2).map (·.nd),m.slot+1,m.turns,(Gs m loads sil).1⟩:Me)=_;rw[e,(Mk m loads sil).1];simp only[AkO]
 rfl
theorem Yy {m:Me} {loads:List Ld} {T:Tb} {i:Nat} (h:RN m.nodes.length T i (m.nodes.getD i default)) (hs:0<=m.slot/\m.slot<=109951162):RN m.nodes.length T i (Np m loads i):=TE _ (AcL h hs)
theorem Lf {m:Me} {loads:List Ld} {sil:List Si} {i:Nat} (hi:i<m.nodes.length) (h:(wk2 m loads sil i).rs.heard=true):
  ∃j,j<m.nodes.length/\(wk1 m loads j).ac.kind=1/\Ah7 (wk2 m loads sil i).rs=PV (wk1 m loads j).ac/\(wk1 m loads i).ac.kind=2:=by
 have hl:=Ib m loads;have hz:(wk1 m loads i).rs=zRs:=rfl;have e:(wk2 m loads sil i).rs=rsK sil m.slot (Fh m loads) m.nodes.length i:=rfl;rw[e] at h ⊢;unfold rsK at h ⊢;rw[HI m loads hi] at h ⊢;by_cases h2:(wk1 m loads i).ac.kind=2
 ·rw[Akc h2,Akc hi] at h;rw[Akc h2,Akc hi];cases hr:Eu sil m.slot (Fh m loads) i with
  |none=>rw[hr] at h;cases h
  |some j=>
   obtain⟨a1,a2,a3,a4⟩:=Ji hr;rw[hl] at a2;rw[HI m loads a2] at a3;refine⟨j,a2,a3,?_,h2⟩;show Ah7 (ZE (PV ((Fh m loads).getD j default).ac))=_;rw[HI m loads a2];rfl
 ·rw[Akb h2,hz] at h;cases h
theorem AeL {l:List Nb} (h:checkNb l=0) {t e k s:Int} (h0:(hearM l t e k s).2=0):checkNb (hearM l t e k s).1=0/\(hearM l t e k s).1=P.K3 l t e k s:=by
 unfold hearM at h0 ⊢;rw[Akb (by omega)] at h0 ⊢
 split at h0
 ·cases h0
 ·rename_i hh;have hh:P.C5 t e k s=true:=by simpa using hh
  rw[Akb (by rw[hh];simp)]
  split at h0
  ·cases h0
  ·rename_i hs;rw[Akb hs];exact⟨P.WX h hh,rfl⟩
theorem Ab2 {l:List Nb} (h:checkNb l=0) {t:Int} {b:Bool} (h0:(countM l t b).2=0):checkNb (countM l t b).1=0/\P.BD l t=true/\(countM l t b).1=l.set (P.CG l t) (P.cnt (l.getD (P.CG l t) default) b):=by
 unfold countM at h0 ⊢;rw[Akb (by omega)] at h0 ⊢
 split at h0
 ·cases h0
 ·rename_i hf;rw[Akb hf];have hf:P.BD l t=true:=by simpa using hf
  exact⟨P.Aaa h (P.BP.1 hf).1,hf,rfl⟩
theorem Ab3 (x:Nb) (b:Bool):(P.cnt x b).node=x.node/\(P.cnt x b).epoch=x.epoch/\(P.cnt x b).rank=x.rank/\(P.cnt x b).slot=x.slot:=by
 unfold P.cnt
 repeat' split
 all_goals exact⟨rfl,rfl,rfl,rfl⟩
theorem RN.Ago {n:Nat} {T:Tb} {i:Nat} {x:MN} (h:RN n T i x) {l:List Nb} (hc:checkNb l=0) (hn:∀y∈l,y.node<n):RN n T i {x with nb:=l}:=
 ⟨h.st,h.nd,h.len,h.sp,h.rk,h.rn,h.rp,hc,hn,h.nx⟩
theorem Z0 {n:Nat} {T:Tb} {i:Nat} {w:Wk} {slot:Int} (h:RN n T i w.nd) (hs:0<=slot/\slot<=109951162):RN n T i (Dh slot w).nd/\(Dh slot w).rs=w.rs/\(Dh slot w).ac=w.ac/\(Dh slot w).nd.rk=w.nd.rk/\(Dh slot w).nd.nb=w.nd.nb:=by
 unfold Dh
 split
 ·exact⟨h,rfl,rfl,rfl,rfl⟩
 ·obtain⟨e,h1⟩:=Ly (s:=w.nd.st) (slot:=slot) w.rs h.st hs;rw[e];rw[Akc rfl];exact⟨h.Aa1 h1.1 h1.2.2,rfl,rfl,rfl,rfl⟩
theorem U9 {n:Nat} {T:Tb} {i:Nat} {w:Wk} {slot:Int} (h:RN n T i w.nd) (hsrc:w.rs.heard=true->w.rs.source<n):RN n T i (Dm slot w).nd:=by
 unfold Dm
 split
 ·rename_i hc;obtain⟨h1,h2⟩:=AeL h.nb hc.2.2;refine h.Ago h1 fun y hy=>?_
  rw[h2] at hy;rcases R.YY hy with hy|hy
  ·exact h.nn y hy
  ·rw[hy.1];exact hsrc hc.1
 ·exact h
theorem U8 {n:Nat} {T:Tb} {i:Nat} {w:Wk} (h:RN n T i w.nd):RN n T i (En w).nd:=by
 unfold En
 split
 ·rename_i hc;obtain⟨h1,h2,h3⟩:=Ab2 h.nb hc.2.2.2;refine h.Ago h1 fun y hy=>?_
  rw[h3] at hy;rcases Alc hy with hy|hy
  ·exact h.nn y hy
  ·rw[hy,(Ab3 _ _).1];exact h.nn _ (R.BS (P.BP.1 h2).1)
 ·exact h
theorem AcJ {n:Nat} {T:Tb} {i:Nat} {w:Wk} {slot:Int} {arr:List Ar} (h:RN n T i w.nd):RN n T i (GA slot arr w).2.nd:=by
 unfold GA
 split
 ·exact h
 ·split
  ·exact Zy _ h
  ·exact h
theorem RB {l:List Nb} (h:checkNb l=0) (slot:Int):checkNb (forgetM l slot 256)=0/\∀y∈forgetM l slot 256,y∈l:=by
 unfold forgetM
 split
 ·exact⟨R.WQ h _ _,fun y hy=>(Aj3.1 hy).1⟩
 ·exact⟨h,fun y hy=>hy⟩
theorem Z8 {n:Nat} {T:Tb} {i:Nat} {x:MN} {slot:Int} (h:RN n T i x) (hn:n<=32):RN n T i (D0 slot x):=by
 obtain⟨f1,f2⟩:=RB h.nb slot;obtain⟨s1,s2,s3,s4,s5⟩:=R.LX f1 h.rk (m:=64) (by omega);have hpar:(select' (forgetM x.nb slot 256) x.rk 64).1.parent<n:=by
  rcases s5 with s5|⟨b,hb,s5,_⟩|⟨s5,_⟩
  ·have:=h.rp;rw[s5];omega
  ·rw[<-s5];exact h.nn _ (f2 _ (R.BS hb))
  ·rw[s5];exact h.rp
 unfold D0;rw[Akb (by omega)];have hb:RN n T i {x with nb:=forgetM x.nb slot 256,rk:=(select' (forgetM x.nb slot 256) x.rk 64).1}:=
  ⟨h.st,h.nd,h.len,h.sp,s2,s3.trans h.rn,hpar,f1,fun y hy=>h.nn y (f2 y hy),h.nx⟩
 split
 ·exact hb
 ·rename_i hc;have hp:0<=(select' (forgetM x.nb slot 256) x.rk 64).1.parent:=by omega
  obtain⟨_,_,q3,_⟩:=P.JH s2 (by omega);refine hb.Aa1 (Abb h.st (by omega) ?_) rfl;rw[h.nd,<-h.rn,<-s3];exact q3
theorem P1 {m:Me} {loads:List Ld} {T:Tb} (hn:m.nodes.length<=32) (hs:0<=m.slot/\m.slot<=109951162) {i:Nat} (hi:i<m.nodes.length) (h:RN m.nodes.length T i (m.nodes.getD i default)):
  RN m.nodes.length T i (wk1 m loads i).nd/\((wk1 m loads i).ac.kind=1->(wk1 m loads i).ac.source=i/\Fk (PV (wk1 m loads i).ac)=0/\((wk1 m loads i).ac.BM=3↔(wk1 m loads i).bc=true)):=by
 have hp:=Yy (loads:=loads) h hs;refine⟨Ahe hp,fun k1=>?_⟩;obtain⟨a1,a2,a3,_⟩:=VN (turns:=m.turns) hp (by omega) hs k1;exact⟨a1,a2,a3⟩
theorem Afu {m:Me} {loads:List Ld} {sil:List Si} {T:Tb} (hn:m.nodes.length<=32) (hs:0<=m.slot/\m.slot<=109951162) (h:∀i,i<m.nodes.length->RN m.nodes.length T i (m.nodes.getD i default)) {i:Nat} (hi:i<m.nodes.length):
  RN m.nodes.length T i (wk3 m loads sil i).nd:=by
 have h1:=(P1 (loads:=loads) hn hs hi (h i hi)).1;obtain⟨d1,d2,d3,_⟩:=Z0 (w:=wk2 m loads sil i) (slot:=m.slot) h1 hs;refine U8 (U9 d1 fun hh=>?_);rw[d2] at hh ⊢;obtain⟨j,hj,k1,e,_⟩:=Lf hi hh;have:=((P1 (loads:=loads) hn hs hj (h j hj)).2 k1).1;have e2:(wk2 m loads sil i).rs.source=(wk1 m loads j).ac.source:=congrArg Fr.source e;rw[e2,this];omega
theorem Aes {m:Me} {loads:List Ld} {sil:List Si} {T:Tb} (hn:m.nodes.length<=32) (hs:0<=m.slot/\m.slot<=109951162) (h:∀i,i<m.nodes.length->RN m.nodes.length T i (m.nodes.getD i default)) {i:Nat} (hi:i<m.nodes.length):
  RN m.nodes.length T i (Hp m loads sil i):=Z8 (AcJ (Afu hn hs h hi)) hn
theorem Ng {l:List Ar} {d:ByteArray} {slot:Int} (h:l.length<=4096):(DR l d slot).length<=4096:=by
 unfold DR
 split
 ·exact h
 ·split
  ·exact h
  ·rw[Ajy];show l.length+1<=4096;omega
theorem VF {m:Me} {loads:List Ld} {sil:List Si} (h:m.arr.length<=4096):(Afo m loads sil).length<=4096:=by
 unfold Afo;rw[(Mk m loads sil).2]
 split
 ·unfold GA
  split
  ·exact h
  ·split
   ·exact h
   ·exact Ng h
 ·exact h
theorem V6 {m:Me} (loads:List Ld) (sil:List Si) (hm:B6 m=0) (hs:m.slot<16384):B6 (ID m loads sil)=0:=by
 obtain⟨hh,hr⟩:=DG.1 hm;have hn:=hh.n2;have h1:=hh.s1;have hnode:∀i,i<m.nodes.length->RN m.nodes.length (m.nodes.getD 0 default).st.tb i (Hp m loads sil i):=fun i hi=>Aes hn (by omega) hr hi
 rw[Jz,DG];have hl:((List.range m.nodes.length).map (Hp m loads sil)).length=m.nodes.length:=by simp
 refine⟨⟨by rw[hl];exact hh.n1,by rw[hl];exact hn,by show 0<=m.slot+1;omega,by show m.slot+1<=16384;omega,hh.t1,hh.t2,VF hh.a1⟩,fun i hi=>?_⟩;dsimp only at hi ⊢;rw[hl] at hi;have hn1:=hh.n1;rw[hl,CY _ hi,CY _ (show 0<m.nodes.length by omega)];have h0:=hnode 0 (by omega);have h2:=hnode i hi;exact⟨h2.st,h2.nd,h2.len.trans h0.len.symm,h2.sp.trans h0.sp.symm,h2.rk,h2.rn,h2.rp,h2.nb,h2.nn,h2.nx⟩
theorem L4 {loads:List Ld} {sil:List Si} {m:Me} (hm:B6 m=0):∀k:Nat,m.slot+k<=16384->B6 (runN loads sil k m)=0/\(runN loads sil k m).slot=m.slot+k/\(runN loads sil k m).nodes.length=m.nodes.length/\(runN loads sil k m).turns=m.turns
 |0,_=>⟨hm,by show m.slot=m.slot+((0:Nat):Int);omega,rfl,rfl⟩
 |k+1,hk=>by
  obtain⟨h1,h2,h3,h4⟩:=L4 (loads:=loads) (sil:=sil) hm k (by omega);have e:runN loads sil (k+1) m=ID (runN loads sil k m) loads sil:=rfl;rw[e];refine⟨V6 loads sil h1 (by omega),?_,?_,?_⟩
  ·rw[Jz];show _+1=_;rw[h2];omega
  ·rw[Jz];simp[h3]
  ·rw[Jz];exact h4
end Go.Proofs.M
namespace Go.Proofs.M
open Go Go.Sx Go.Proofs Go.Proofs.T Go.Proofs.Q
open Go.Proofs.P (Nb nbs Rk rkA rkErr checkNb hearM countM forgetM select')
open Go.Proofs.R (startM advM)
set_option maxRecDepth 4000
attribute [local irreducible] VR VC thenQ blockQ retL
def spK (t:Tb) (k:Nat):List Sp:=((t.cells.take k).filter fun c=>decide (c.kind=3)).map fun c=>⟨c.slot,c.offset⟩
theorem X5 (t:Tb) (k:Nat):(spK t k).length<=t.cells.length:=by
 unfold spK;have h1:=Aj4 (fun c:TC=>decide (c.kind=3)) (t.cells.take k);rw[AjK];rw[AjD] at h1;omega
theorem X6 (t:Tb):spK t t.cells.length=FE t:=by unfold spK FE;rw[AkB]
theorem UK {t:Tb} {k:Nat} (hk:k<t.cells.length):spK t (k+1)=if(t.cells.getD k default).kind=3 then spK t k++[⟨(t.cells.getD k default).slot,(t.cells.getD k default).offset⟩] else spK t k:=by
 unfold spK;have e:t.cells.take (k+1)=t.cells.take k++[t.cells.getD k default]:=by
  rw[Ak5,Ajt,AjC hk];rfl
 rw[e,Akw,Akl];by_cases h:(t.cells.getD k default).kind=3
 ·rw[Akc h];simp only[List.filter_cons,Aju h,List.filter_nil,if_true,Akq,Aku]
 ·rw[Akb h];simp only[List.filter_cons,Ajv h,List.filter_nil,Akr,if_false,Aku,AjQ]
theorem GP (t:Tb) (hl:t.cells.length<=100000):Ak 70 [tbA t] (AD (sps (FE t))):=by
 refine Ao func70 ntmps70 results70 fun E hS=>?_
 refine AG ?_
 repeat'(first|refine Af ?_|fail)
 refine VC.le (le_nil (t:=3) (nm:=103) (T:=115) (sz:=2) rfl rfl) ?_;refine Er t.cells.length (fun k=>AN [(1,.c (.ptr 1 0)),(3,.c (.row 103 (spK t k).length)),(7,AD (tcs t.cells)),(8,AI t.cells.length),(9,AI k)] [(1,.box t.cs),(103,.row 115 2 (rowOf Sp.enc (spK t k)))]) ?_ ?_
 ·exact Al
 ·intro k hk;have hkl:=X5 t k;by_cases hc:k<t.cells.length
  ·have hd:=Cz k t.cells.length;have hs:=UK hc;by_cases h3:(t.cells.getD k default).kind=3
   ·have d3:=Aju h3;rw[Akc h3] at hs
    repeat'(first|refine Af ?_|refine Ap ?_|fail)
    refine BU (k+1) ?_;rw[hs,Ajy];exact BF (fun n=>if n=103 then 23 else n)
   ·have d3:=Ajv h3;rw[Akb h3] at hs
    repeat'(first|refine Af ?_|fail)
    refine BU (k+1) ?_;rw[hs];exact Al
  ·have hd:=CM k t.cells.length;have hkl:k=t.cells.length:=by omega
   subst hkl;rw[<-X6]
   repeat'(first|refine Ad ?_|fail)
   exact Ag (Cu (l:=[(2,AD (sps (spK t t.cells.length)))]) (b:=[]) (fun n=>n) [103] hS) CV
theorem RF (a b:List Sp):Ak 69 [AD (sps a),AD (sps b)] (AB (decide (a=b))):=by
 refine Ao func69 ntmps69 results69 fun E hS=>?_
 refine Bz (t:=0) rfl fun hb=>?_
 repeat'(first|refine Af ?_|(refine Av ?_ ?_<;>intro h hq)|fail)
 ·refine Aq Ae rfl ?_;have:a≠b:=fun e=>by subst e;simp_all
  simp[this]
 ·refine Ax (ι:=Nat) (fun k=>AN [(0,AD (sps a)),(1,AD (sps b)),(12,AI a.length),(13,AI k)] []) (fun k=>k<=a.length/\∀i,i<k->a.getD i default=b.getD i default) (fun k=>a.length-k) 0 ⟨Ake _,fun i hi=>absurd hi (Aj9 _)⟩ ?_ ?_
  ·exact By ⟨rfl,rfl,rfl,rfl,tt0⟩ trivial rfl
  ·rintro k ⟨hk,hall⟩
   repeat'(first|refine Af ?_|refine Gc (gk rfl) rfl rfl rfl rfl rfl rfl rfl ?_|(refine Av ?_ ?_<;>intro h hq)|fail)
   ·refine Aq Ae rfl ?_;have:a≠b:=fun e=>hq (by rw[e])
    simp[this]
   ·refine⟨k+1,⟨by omega,fun i hi=>?_⟩,by omega,By ⟨rfl,rfl,rfl,rfl,tt0⟩ trivial rfl⟩;by_cases hik:i<k
    ·exact hall i hik
    ·have:i=k:=by omega
     subst this;exact Agi hq
   ·refine Aq Ae rfl ?_;have:a=b:=Go.Sx.EX (by omega) fun i hi=>hall i (by omega)
    simp[this]
abbrev Ln (p:Nb->Bool):List DV->DV->Prop:=fun ds r=>∃x:Nb,ds=[.agg x.enc]/\r=.d (.bool (p x))
theorem AeJ (l:List Nb) (p:Nb->Bool):Ak 117 [AD (nbs l),.clo (Ln p)] (AI (oI (Ft l p))):=by
 refine Ao func117 ntmps117 results117 fun E hS=>?_
 refine Bz (t:=0) rfl fun hb=>?_
 repeat'(first|refine Af ?_|fail)
 refine Ax (ι:=Nat) (fun k=>AN [(0,AD (nbs l)),(1,.clo (Ln p)),(7,AI l.length),(8,AI k)] []) (fun k=>k<=l.length/\∀i,i<k->p (l.getD i default)=false) (fun k=>l.length-k) 0 ⟨Ake _,fun i hi=>absurd hi (Aj9 _)⟩ ?_ ?_
 ·exact By ⟨rfl,rfl,rfl,rfl,tt0⟩ trivial rfl
 ·intro k hk
  repeat'(first|refine Af ?_|refine F4 (⟨_,rfl,rfl⟩) (gk rfl) rfl rfl rfl rfl ?_|(refine Av ?_ ?_<;>intro h hq)|fail)
  ·refine Aw Ae rfl ?_;rw[C2 hk.2 (by omega) h];rfl
  ·refine⟨k+1,⟨by omega,fun i hi=>?_⟩,by omega,By ⟨rfl,rfl,rfl,rfl,tt0⟩ trivial rfl⟩;by_cases hik:i<k
   ·exact hk.2 i hik
   ·have:i=k:=by omega
    subst this;exact h
  ·refine Aw Ae rfl ?_;have:k=l.length:=by omega
   subst this;rw[CF hk.2];rfl
theorem RP (l:List Nb) (p:Nb->Bool):Ak 74 [AD (nbs l),.clo (Ln p)] (AB (l.any p)):=by
 refine Ao func74 ntmps74 results74 fun E hS=>?_
 repeat'(first|refine Ad ?_|refine AK [] (AeJ l p) ?_|fail)
 all_goals exact Aq Ae rfl (EL _ _).symm
def Afi (m:Me) (x:Nb):Bool:=decide ((m.nodes.length:Int)<=x.node)
theorem Tf (x:Nb) (m:Me):Ak 71 [.agg x.cs,.ep (fun j=>m.enc.getD j .Df) 4] (AB (Afi m x)):=by
 refine Ao func71 ntmps71 results71 fun E hS=>?_
 repeat'(first|refine Ad ?_|fail)
 all_goals(refine Aq Ae rfl ?_;unfold Afi;first|rfl|(simp_all;done)|(simp_all;omega))
theorem Wj {σ:St} {m:Me} {n1:Nat} {L:List Nat} (hL:n1∈L) (h1:σ (.b n1)=some (.k (.box m.cs))):AR Tryz.prog σ L (.fnc 71 [.ptr n1 0]) (.clo (Ln (Afi m))):=
 .fnc (eps:=[.ep (fun j=>m.enc.getD j .Df) 4]) (.cons (.ptr hL h1 (fun j hj=>by
  have:j=0\/j=1\/j=2\/j=3:=by omega
  rcases this with rfl|rfl|rfl|rfl<;>rfl)) .nil) (enters_of func71 (by kernel_rfl) rfl)
  (by rintro _ _ ⟨x,rfl,rfl⟩;exact⟨rfl,Tf x m⟩)
theorem Wi (m:Me) (i:Nat) (hi:i<m.nodes.length) (h0:AU (m.nodes.getD i default).st=0->(m.nodes.getD 0 default).st.tb.cells.length<=100000) (h1:AU (m.nodes.getD i default).st=0->(m.nodes.getD i default).st.tb.cells.length<=100000):
  Ak 44 [meA m,AI (i:Int)] (AB (D4 m i)):=by
 have c1:=D1 (m.nodes.getD i default).st;have c2:=P.DU (m.nodes.getD i default).rk;have c3:=P.B3 (m.nodes.getD i default).nb;have c4:=RP (m.nodes.getD i default).nb (Afi m);have h00:0<m.nodes.length:=by omega
 by_cases hck:AU (m.nodes.getD i default).st=0
 ·have c5:=GP (m.nodes.getD 0 default).st.tb (h0 hck);have c6:=GP (m.nodes.getD i default).st.tb (h1 hck);clear h0 h1;have c7:=RF (FE (m.nodes.getD i default).st.tb) (FE (m.nodes.getD 0 default).st.tb);have d1:decide (AU (m.nodes.getD i default).st≠0)=false:=Ajv (fun h=>h hck);refine Ao func44 ntmps44 results44 fun E hS=>?_
  repeat'(first|refine Ad ?_|refine Aa (c1) ?_|refine Aa (c2) ?_|refine Aa (c3) ?_|refine Aa (c5) ?_|refine Aa (c6) ?_|refine Aa (c7) ?_|refine Cd [2] (c4) (gk rfl) rfl (by(repeat'(first|exact .nil|refine .cons ?_ ?_|exact .of0 (.c .d)|exact(Wj (by simp) rfl)))<;>fail) (by rfl) rfl (by rfl) rfl (by rfl) rfl ?_|(refine Av ?_ ?_<;>intro h hq)|fail)
  all_goals refine Aq Ae rfl ?_
  all_goals clear c1 c2 c3 c4 c5 c6 c7 d1
  all_goals unfold D4
  all_goals rw[show(fun n:Nb=>decide ((m.nodes.length:Int)<=n.node))=Afi m from rfl]
  all_goals generalize m.nodes.getD i default=x at *
  all_goals generalize m.nodes.getD 0 default=y at *
  all_goals generalize x.nb.any (Afi m)=B at *
  all_goals first|(simp_all;done)|(simp_all;omega)
 ·have d1:decide (AU (m.nodes.getD i default).st≠0)=true:=Aju hck;refine Ao func44 ntmps44 results44 fun E hS=>?_
  repeat'(first|refine Ad ?_|refine Aa (c1) ?_|fail)
  all_goals refine Aq Ae rfl ?_
  all_goals unfold D4
  all_goals rw[Ajv (fun h=>hck h.1)];rfl
theorem NY {m:Me} {i:Nat} (h:D4 m i=true):(m.nodes.getD i default).st.tb.cells.length<=100000:=by
 have:=(B4 (Ba ((H6.1 h).st)).1).1;omega
theorem B3 (m:Me):Ak 15 [meA m] (AI (B6 m)):=by
 have hst:∀i,AU (m.nodes.getD i default).st=0->(m.nodes.getD i default).st.tb.cells.length<=100000:=fun i h=>by
  have:=(B4 (Ba h).1).1;omega
 refine Ao func15 ntmps15 results15 fun E hS=>?_
 repeat'(first|refine Af ?_|(refine Av ?_ ?_<;>intro h hq)|fail)
 all_goals first
  |(refine Aw Ae rfl ?_;exact Akc (by omega))
  |skip
 have e:B6 m=if(List.range m.nodes.length).any (fun i=>!D4 m i) then 1 else 0:=Akb (by omega)
 rw[e];refine Ax (ι:=Nat) (fun k=>AN [(1,.c (.ptr 1 0)),(42,AI m.nodes.length),(43,AI k)] [(1,.box m.cs)]) (fun k=>k<=m.nodes.length/\∀i,i<k->D4 m i=true) (fun k=>m.nodes.length-k) 0 ⟨Ake _,fun i hi=>absurd hi (Aj9 _)⟩ ?_ ?_
 ·exact Al
 ·rintro k ⟨hk,hall⟩;by_cases hc:k<m.nodes.length
  ·have hd:=Cz k m.nodes.length;have hr:=Wi m k hc (fun h=>by
    rcases Ak9 k with h0|h0
    ·subst h0;exact hst 0 h
    ·exact NY (hall 0 h0)) (hst k)
   cases hrk:D4 m k with
   |true=>
    have d1:(!D4 m k)=false:=by rw[hrk];rfl
    repeat'(first|refine Af ?_|refine Aa (hr) ?_|fail)
    refine⟨k+1,⟨by omega,fun i hi=>?_⟩,by omega,?_⟩
    ·by_cases h:i<k
     ·exact hall i h
     ·have:i=k:=by omega
      subst this;exact hrk
    ·exact Al
   |false=>
    have d1:(!D4 m k)=true:=by rw[hrk];rfl
    repeat'(first|refine Af ?_|refine Aa (hr) ?_|fail)
    refine Aw Ae rfl ?_;exact Akc (AjM.2 ⟨k,Aj2.2 hc,d1⟩)
  ·have hd:=CM k m.nodes.length
   repeat'(first|refine Ad ?_|fail)
   refine Aw Ae rfl ?_;refine Akb fun h=>?_
   obtain⟨i,hi,h2⟩:=AjM.1 h;rw[hall i (by have:=Aj2.1 hi;omega)] at h2;cases h2
theorem Mu (m:Me) (loads:List Ld) (sil:List Si):Ak 54 [meA m,AD (lds loads),AD (sis sil)] (AI (C0 m loads sil)):=by
 have hck:=B3 m;refine Ao func54 ntmps54 results54 fun E hS=>?_
 by_cases h:B6 m=0
 ·have d1:decide (B6 m≠0)=false:=Ajv (fun hn=>hn h);have e:C0 m loads sil=if 1024<loads.length\/1024<sil.length then 8 else 0:=Akb (fun hn=>hn h)
  rw[e]
  repeat'(first|refine Af ?_|refine Aa (hck) ?_|(refine Av ?_ ?_<;>intro h hq)|fail)
  all_goals(refine Aw Ae rfl ?_;first|exact Akc (by omega)|exact Akb (by omega))
 ·have d1:decide (B6 m≠0)=true:=Aju h
  repeat'(first|refine Af ?_|refine Aa (hck) ?_|fail)
  exact Aw Ae rfl (Akc h)
end Go.Proofs.M
