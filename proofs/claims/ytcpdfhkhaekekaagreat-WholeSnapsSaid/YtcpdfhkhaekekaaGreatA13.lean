/- The walk of the functions, and the plain laws of the model: part of the proof. Conditions: none. -/
import Derived.Test.YtcpdfhkhaekekaaGreatA12
set_option linter.unusedVariables false
set_option linter.unusedSimpArgs false
namespace Go.Proofs.YtcpdfhkhaekekaaGreat.G.aR
open Go.bO Go.RowKit cL eh eW c5
structure Fr(st wa:bw.hi)(l:an):Prop where
 fa:bw.Good wa
 gH:wa.gH=st.gH
 blocks:wa.blocks=st.blocks
 head:wa.head=st.head
 used:wa.used=st.used
 mem:∀x,x∈wa.free↔x∈st.free\/(x∈l/\0<=x/\x<st.gH/\x≠st.head)
theorem alO{st:bw.hi}(h:bw.Good st)(k:Int):Fr st (bw.nL st k).1 [k]:=by
 have bJ:=bw.ZQ h k;unfold bw.nL at bJ⊢;split
 ·rename_i h1;refine⟨h,rfl,rfl,rfl,rfl,λx=>⟨.inl,λI=>I.resolve_right ?_⟩⟩;rintro⟨hm,ι,aG,_⟩;simp only[lB]at hm;omega
 ·rename_i h1;rw[aM h1]at bJ;split
  ·rename_i ι;refine⟨h,rfl,rfl,rfl,rfl,λx=>⟨.inl,?_⟩⟩;rintro(I|⟨hm,_,_,db⟩)
   ·exact I
   ·simp only[lB]at hm;subst hm;exact ι.resolve_left db
  ·rename_i ι;rw[aM ι]at bJ;refine⟨bJ,rfl,rfl,rfl,rfl,λx=>?_⟩;dsimp only;rw[bw.UB];constructor
   ·rintro(rfl|I)
    ·exact .inr ⟨List.mem_singleton_self _,by omega,by omega,λe=>ι (.inl e)⟩
    ·exact .inl I
   ·rintro(I|⟨hm,_⟩)
    ·exact .inr I
    ·exact .inl (lB.1 hm)
theorem Sl:∀(l:an){st:bw.hi},bw.Good st->Fr st (zN st l) l
 |[],st,h=>⟨h,rfl,rfl,rfl,rfl,λx=>⟨.inl,λI=>I.resolve_right λh=>by cases h.1⟩⟩
 |k::r,st,h=>by
  have h1:=alO h k;have ι:=Sl r h1.fa;refine⟨ι.fa,ι.gH.trans h1.gH,ι.blocks.trans h1.blocks,ι.head.trans h1.head,ι.used.trans h1.used,λx=>?_⟩;show x∈(zN (bw.nL st k).1 r).free↔_;rw[ι.mem,h1.mem,h1.gH,h1.head];simp only[fA,n1,oS];constructor
  ·rintro((h|h)|h)
   ·exact .inl h
   ·exact .inr ⟨.inl h.1,h.2⟩
   ·exact .inr ⟨.inr h.1,h.2⟩
  ·rintro(h|⟨h|h,aG⟩)
   ·exact .inl (.inl h)
   ·exact .inl (.inr ⟨h,aG⟩)
   ·exact .inr ⟨h,aG⟩
theorem adR{l:an}(h:bw.CH l):l.Nodup:=List.Pairwise.imp (λ{a b}(h:a<b)=>(by omega:a≠b)) h
theorem UA{n:Nat}{V:List dh}{h x:Int}:x∈kt n V [h]↔∃i:Nat,i<n/\x=(i:Int)/\(∀z∈V,z.1≠i)/\x≠h:=by
 unfold kt;simp only[gO,mv,ns];constructor
 ·rintro⟨i,⟨o,bg⟩,rfl⟩;unfold Aa at bg;simp only[kx,Bool.not_eq_true',beq_iff_eq]at bg;refine⟨i,o,rfl,λz aL e=>?_,λe=>?_⟩
  ·have:=sb bg.1
   have hm:z∈V.filter λx=>x.1==i:=mv.2 ⟨aL,by simpa using e⟩;rw[this]at hm;cases hm
  ·have ι:=bg.2
   have:bw.has [h] (i:Int)=true:=(bw.NA _ _).2 (by rw[e];exact List.mem_singleton_self _)
   rw[this]at ι;cases ι
 ·rintro⟨i,o,rfl,aL,ca⟩;refine⟨i,⟨o,?_⟩,rfl⟩;unfold Aa;have h1:(V.filter λx=>x.1==i)=[]:=Pb.2 λz hm=>by simpa using aL z hm
  have ι:bw.has [h] (i:Int)=false:=by
   cases aC:bw.has [h] (i:Int)with
   |false=>rfl
   |true=>exact absurd (lB.1 ((bw.NA _ _).1 aC)) ca
  rw[h1,ι];rfl
theorem HC{R:bR}(ok:∀e∈R,lz e){x:dh}:x∈lays (used R)↔x∈used R:=HB (q8 ok)
structure sA(m:aR):Prop where
 dev:a6.Good m.d
 off:m.d.off=false
 after:m.d.after=-1
 me:(m.d.now.length:Int)=40+m.s*m.k
theorem Inv.wK{m:aR}(h:Inv m):sA m:=⟨h.dev,h.off,h.after,h.me⟩
theorem arq{m:aR}(h:nH m):12<=m.s*m.k:=by
 have:=h.gx
 have:6*2<=m.s*m.k:=sd this.1 this.2.2.1 (by omega) (by omega)
 omega
theorem VU{m:aR}(h:nH m)(af:sA m){x:dh}(I:(x.1:Int)<m.s/\(x.2:Int)<m.k):m.d.now[(mT m.k x).toNat]?=some (hf m.k m.d x)/\a6.kE (hf m.k m.d x):=by
 have h1:=Fw h.gx I;have ι:=af.me;have aj:(mT m.k x).toNat<m.d.now.length:=by omega
 have e:hf m.k m.d x=m.d.now[(mT m.k x).toNat]:=by unfold hf;rw[List.getD_eq_getElem?_getD,List.getElem?_eq_getElem aj];rfl
 rw[e];exact⟨List.getElem?_eq_getElem aj,af.dev.now _ (hF aj)⟩
structure QB(m m':aR)(xs ys U:List dh):Prop where
 base:nH m'
 dev:sA m'
 ok:A7 m'.st (ys++U)
 len:ys.length=xs.length
 k4:ys.Nodup
 new:∀y∈ys,y∉U
 lt:∀y∈ys,(y.1:Int)<m.s/\(y.2:Int)<m.k
 ad4:∀y∈ys,(y.1:Int)=m.st.head\/(y.1:Int)∈m.st.free
 head:m'.st.head=m.st.head\/m'.st.head∈m.st.free
 sub:∀x∈m'.st.free,x∈m.st.free
 old:∀z:dh,(z.1:Int)<m.s/\(z.2:Int)<m.k->z∉ys->hf m.k m'.d z=hf m.k m.d z
 sec:ys.map (hf m.k m'.d)=xs.map (hf m.k m.d)
 s:m'.s=m.s
 k:m'.k=m.k
 R:m'.R=m.R
 dl:m'.dl=m.dl
 seq:m'.seq=m.seq
 mX:m'.used=m.used
 clock:m'.clock=m.clock
 lj:m'.lj=m.lj
 n5:m'.stamps.length=m.stamps.length
 qi:(∀t∈m.stamps,0<=t/\t<=m.clock)->0<=m.clock->∀t∈m'.stamps,0<=t/\t<=m.clock
 loose:m'.d.loose.length=m.d.loose.length+xs.length
 fT:1<=m'.st.free.length
 two:bw.full m.st=false->m.st.used+xs.length<=m.k->m'.st.free.length=m.st.free.length
 acp:(bw.full m.st=true/\xs≠[])\/(0<=m.st.head/\m.st.used+xs.length<m.k)->bw.full m'.st=false
theorem Nk{m:aR}(h:nH m):bw.full m.st=false↔0<=m.st.head/\m.st.used<m.k:=by
 unfold bw.full;have h1:=h.fa.used;have ι:=h.blocks;rw[OV,K0];constructor
 ·rintro⟨a,b⟩
  have:m.st.used≠m.st.blocks:=by simpa using b
  omega
 ·rintro⟨a,b⟩;refine⟨by omega,?_⟩
  have:m.st.used≠m.st.blocks:=by omega
  simpa using this
theorem adT{m:aR}(h:1<=m.st.free.length\/bw.full m.st=false):bw.room m.st 0=true:=by
 unfold bw.room;rcases h with h|h
 ·simp;right;omega
 ·simp[h]
theorem Mp.dev{m m':aR}{x:dh}{bs:an}{U:List dh}(h:Mp m m' x bs U)(ψ:nH m)(af:sA m)(ω:a6.kE bs):sA m':=by have h1:=Fw ψ.gx h.lt;have ι:=af.me;refine⟨by rw[h.d];exact a6.Vp af.dev (by omega) ω,by rw[h.d];exact af.off,by rw[h.d];exact af.after,?_⟩;rw[h.d,h.s,h.k];show(((m.d.now.set _ _).length:Nat):Int)=_;rw[im];exact af.me
theorem Rx:∀(xs:List dh)(m:aR)(U:List dh),nH m->sA m->A7 m.st U->(∀x∈xs,x∈U)->(∀x∈U,(x.1:Int)<m.s/\(x.2:Int)<m.k)->
  ((2<=m.st.free.length/\(xs.length:Int)<m.k)\/(1<=m.st.free.length/\0<=m.st.head/\m.st.used+xs.length<m.k))->QB m (hK m xs).1 xs (hK m xs).2 U
 |[],m,U,ψ,af,jb,_,_,ax=>⟨ψ,af,jb,rfl,List.nodup_nil,λy ah=>(by cases ah),λy ah=>(by cases ah),λy ah=>(by cases ah),.inl rfl,λ_ h=>h,λ_ _ _=>rfl,rfl,rfl,rfl,rfl,rfl,rfl,rfl,rfl,rfl,rfl,λh _=>h,rfl,(by rcases ax with h|h;exact fY (by decide) h.1;exact h.1),λ_ _=>rfl,
   λh=>(Nk ψ).2 (by rcases h with h|h;exact absurd rfl h.2;simp at h;omega)⟩
 |x::r,m,U,ψ,af,jb,I,bM,ax=>by
  have oD:=bM x (I x (by simp));obtain⟨bJ,lO⟩:=VU ψ af oD;have mi:bw.room m.st 0=true:=adT (by
   rcases ax with h|h
   ·exact .inl (by omega)
   ·exact .inl h.1)
  have dC:=OP ψ jb (Int.le_refl 0) mi (hf m.k m.d x);unfold hK;generalize hp:(fP m (hf m.k m.d x) 0).1=m1 at dC⊢;generalize ah:(fP m (hf m.k m.d x) 0).2=y at dC⊢;have lK:=dC.dev ψ af lO;have hlen:((x::r).length:Int)=r.length+1:=by simp
  have ank:=Nk dC.base;have JX:0<=m1.st.head:=by rw[dC.head];omega
  have qN:(2<=m1.st.free.length/\(r.length:Int)<m1.k)\/(1<=m1.st.free.length/\0<=m1.st.head/\m1.st.used+r.length<m1.k):=by
   rw[dC.k];rcases dC.fT with⟨f1,f2,f3⟩|⟨f1,f2,f3⟩
   ·rcases ax with h|h
    ·exact .inr ⟨by omega,JX,by omega⟩
    ·have:=(Nk ψ).2 ⟨h.2.1,by omega⟩
     rw[this]at f1;cases f1
   ·rcases ax with h|h
    ·exact .inl ⟨by rw[f2];exact h.1,by omega⟩
    ·exact .inr ⟨by rw[f2];exact h.1,JX,by omega⟩
  have ch:=Rx r m1 (y::U) dC.base lK dC.ok (λz aL=>hW _ (I z (hW _ aL))) (λz aL=>by
   rw[dC.s,dC.k];rcases fA.1 aL with rfl|aL
   ·exact dC.lt
   ·exact bM z aL) qN
  have BH:r=[]->(hK m1 r).1=m1:=λh=>by rw[h];rfl
  generalize hK m1 r=q at ch BH⊢;obtain⟨m2,ys⟩:=q;dsimp only at ch⊢;have zZ:∀z:dh,(z.1:Int)<m.s/\(z.2:Int)<m.k->hf m.k m1.d z=if z=y then hf m.k m.d x else hf m.k m.d z:=λz aL=>by rw[dC.d];exact VV ψ.gx af.me dC.lt _ aL
  have T6:y∉ys:=λhm=>ch.new y hm n2;have abl:∀{s:Int},s=m1.st.head\/s∈m1.st.free->s=m.st.head\/s∈m.st.free:=λh=>by
   rcases h with h|h
   ·rw[h,dC.head];exact dC.from_
   ·exact .inr (dC.sub _ h)
  refine⟨ch.base,ch.dev,⟨λz aL=>ch.ok.free z ?_,λz aL=>ch.ok.head z ?_⟩,by simp[ch.len],K9.2 ⟨T6,ch.k4⟩,λz aL=>?_,λz aL=>?_,λz aL=>?_,abl ch.head,λz aL=>dC.sub z (ch.sub z aL),λz aL abC=>?_,?_,ch.s.trans dC.s,ch.k.trans dC.k,ch.R.trans dC.R,ch.dl.trans dC.dl,ch.seq.trans dC.seq,ch.mX.trans dC.mX,ch.clock.trans dC.clock,ch.lj.trans dC.lj,
   by rw[ch.n5,dC.stamps,im],λh aD t aP=>?_,by rw[ch.loose,dC.d];show(m.d.loose++[_]).length+_=_;simp;omega,ch.fT,λh1 ι=>?_,λh=>ch.acp ?_⟩
  ·have:z∈y::(ys++U):=aL
   simp only[fA,iG]at this⊢;rcases this with h|h|h
   ·exact .inr (.inl h)
   ·exact .inl h
   ·exact .inr (.inr h)
  ·have:z∈y::(ys++U):=aL
   simp only[fA,iG]at this⊢;rcases this with h|h|h
   ·exact .inr (.inl h)
   ·exact .inl h
   ·exact .inr (.inr h)
  ·rcases fA.1 aL with rfl|aL
   ·exact dC.new
   ·exactλhu=>ch.new z aL (hW _ hu)
  ·rcases fA.1 aL with rfl|aL
   ·exact dC.lt
   ·have:=ch.lt z aL
    rw[dC.s,dC.k]at this;exact this
  ·rcases fA.1 aL with rfl|aL
   ·exact dC.from_
   ·exact abl (ch.ad4 z aL)
  ·have h1:=ch.old z (by rw[dC.s,dC.k];exact aL) λhm=>abC (hW _ hm);rw[dC.k]at h1;rw[h1,zZ z aL,aM λe:z=y=>abC (by rw[e];exact n2)]
  ·have h1:=ch.old y (by rw[dC.s,dC.k];exact dC.lt) T6;have ι:=ch.sec;rw[dC.k]at h1 ι;rw[xw,xw,h1,zZ y dC.lt,aS rfl,ι];congr 1;apply Cg;intro z aL;have abB:=I z (hW _ aL);rw[zZ z (bM z abB),aM λe:z=y=>dC.new (by rw[<-e];exact abB)]
  ·have aG:∀t∈m1.stamps,0<=t/\t<=m1.clock:=λt aP=>by
    rw[dC.clock];rw[dC.stamps]at aP;rcases pk aP with aP|rfl
    ·exact h t aP
    ·omega
   have:=ch.qi aG (by rw[dC.clock];exact aD) t aP
   rw[dC.clock]at this;exact this
  ·rcases dC.fT with⟨f1,f2,f3⟩|⟨f1,f2,f3⟩
   ·rw[h1]at f1;cases f1
   ·by_cases υ:r=[]
    ·subst υ;have bE:m2=m1:=BH rfl;rw[bE,f2]
    ·have:=ch.two (ank.2 ⟨JX,by
      have:0<r.length:=VD.2 υ
      rw[dC.k];omega⟩) (by rw[dC.k];omega)
     rw[this,f2]
  ·rcases dC.fT with⟨f1,f2,f3⟩|⟨f1,f2,f3⟩
   ·refine .inr ⟨JX,?_⟩;rw[dC.k];rcases ax with ax|ax
    ·omega
    ·have:=(Nk ψ).2 ⟨ax.2.1,by omega⟩
     rw[this]at f1;cases f1
   ·rcases h with h|h
    ·rw[f1]at h;cases h.1
    ·exact .inr ⟨JX,by rw[dC.k];omega⟩
theorem P8(f:dh->dh)(R:bR):used (kb f R)=(used R).map f:=by
 unfold used kb;rw[List.flatMap_map,List.map_flatMap];congr 1
 funext e
 unfold pB;dsimp only
 induction e.2.2 with
 |nil=>rfl
 |cons q l ch=>cases q with|none=>simpa using ch|some x=>simpa using ch
theorem apK(f g:dh->dh)(R:bR):kb f (kb g R)=kb (f∘g) R:=by
 unfold kb;rw[Cf];congr 1
 funext e
 simp[Cf,Option.map_map,Function.comp_def]
theorem ab5(R:bR):kb id R=R:=by unfold kb;simp
def QJ(f:dh->dh)(l:List dh):Prop:=∀x∈l,∀y∈l,f x=f y->x=y
theorem abU{f:dh->dh}{R:bR}(h:QJ f (used R)):iF (kb f R)=iF R:=by
 unfold iF;rw[P8];apply Nat.le_antisymm
 ·have:=rW (gm ((used R).map f)) ((gm (used R)).map f) (xl _) λx I=>by
   obtain⟨y,ah,rfl⟩:=gO.1 ((kl _ _).1 I);exact gO.2 ⟨y,(kl _ _).2 ah,rfl⟩
  rwa[jV]at this
 ·have ax:((gm (used R)).map f).Nodup:=by
   refine Pc _ (S:=λa b=>a≠b) (R:=λa b=>f a≠f b) (λ_ _ h=>h) ?_|>λh=>h
   exact VE (λ{a b}aQ ψ sU e=>sU (h a ((kl _ _).1 aQ) b ((kl _ _).1 ψ) e)) (xl (used R))
  have:=rW ((gm (used R)).map f) (gm ((used R).map f)) ax λx I=>by obtain⟨y,ah,rfl⟩:=gO.1 I;exact(kl _ _).2 (gO.2 ⟨y,(kl _ _).1 ah,rfl⟩)
  rwa[jV]at this
theorem UE:∀(xs ys:List dh)(R:bR),xs.Nodup->ys.Nodup->ys.length=xs.length->(∀x∈xs,x∈used R)->(∀y∈ys,y∉used R/\gF y)->
  IZ R xs ys/\∃g:dh->dh,k3 R xs ys=kb g R/\(∀z∈used R,z∉xs->g z=z)/\ys=xs.map g/\QJ g (used R)
 |[],[],R,_,_,_,_,_=>⟨trivial,id,(ab5 R).symm,λ_ _ _=>rfl,rfl,λ_ _ _ _ h=>h⟩
 |[],y::ys,R,_,_,h,_,_=>by simp at h
 |x::xs,[],R,_,_,h,_,_=>by simp at h
 |x::xs,y::ys,R,I,ah,aj,BN,T7=>by
  obtain⟨BM,jU⟩:=K9.1 I;obtain⟨T4,N7⟩:=K9.1 ah;have aby:=BN x (by simp);obtain⟨N8,aoX⟩:=T7 y (by simp);have js:∀z,z∈used (kb (lh x y) R)↔∃w∈used R,lh x y w=z:=λz=>by rw[P8,gO]
  have aaS:∀z∈used R,z≠x->z∈used (kb (lh x y) R):=λz aL ca=>(js z).2 ⟨z,aL,by unfold lh;rw[aM ca]⟩;obtain⟨h1,g,ι,aG,cq,db⟩:=UE xs ys (kb (lh x y) R) jU N7 (by simpa using aj) (λz aL=>aaS z (BN z (hW _ aL)) λe=>BM (e▸aL)) (λz aL=>⟨λhm=>by
   obtain⟨w,hw,e⟩:=(js z).1 hm;unfold lh at e;split at e
   ·exact T4 (e▸aL)
   ·exact(T7 z (hW _ aL)).1 (e▸hw),(T7 z (hW _ aL)).2⟩)
  refine⟨⟨aby,N8,aoX,h1⟩,g∘lh x y,by show k3 (kb (lh x y) R) xs ys=_;rw[ι,apK],λz aL ax=>?_,?_,λa aQ b ψ e=>?_⟩
  ·have ca:z≠x:=λe=>ax (e▸n2);show g (lh x y z)=z;unfold lh;rw[aM ca];exact aG z (aaS z aL ca) λhm=>ax (hW _ hm)
  ·rw[xw,cq];congr 1
   ·show y=g (lh x y x);unfold lh;rw[aS rfl];exact(aG y ((js y).2 ⟨x,aby,by unfold lh;rw[aS rfl]⟩) λhm=>N8 (BN y (hW _ hm))).symm
   ·apply Cg;intro z aL;show g z=g (lh x y z);unfold lh;rw[aM λe:z=x=>BM (e▸aL)]
  ·have:=db _ ((js _).2 ⟨a,aQ,rfl⟩) _ ((js _).2 ⟨b,ψ,rfl⟩) e
   unfold lh at this;split at this<;>split at this
   ·rename_i aO bE;rw[aO,bE]
   ·exact absurd (this▸ψ) N8
   ·exact absurd (this▸aQ) N8
   ·exact this
structure CD(m m':aR):Prop where
 s:m'.s=m.s
 k:m'.k=m.k
 R:m'.R=m.R
 clock:m'.clock=m.clock
 stamps:m'.stamps=m.stamps
 fr:Fr m.st m'.st (kt m.s.toNat (lays (used m.R)) [m.st.head])
 low:iA m.d m'.d
 seq:m'.seq=m.seq+1
 dl:m'.dl=[]
 mX:m'.used=0
 loose:m'.d.loose=[]
 lj:m'.lj=false
structure wy(m:aR):Prop where
 base:nH m
 dev:sA m
 len:m.R.length=8
 ok:∀e∈m.R,lz e
 fit:lG m.s m.k m.R
 st:A7 m.st (used m.R)
 n5:m.stamps.length=m.s.toNat
 qi:∀t∈m.stamps,0<=t/\t<=m.clock
 dl:∀d∈m.dl,d.wf/\hS d=0
 mX:m.used<=16
 seq:1<=m.seq
theorem Inv.vK{m:aR}(h:Inv m):wy m:=⟨h.base,h.wK,h.len,h.ok,h.fit,h.Ir,h.n5,h.qi,h.dl,h.mX,h.seq⟩
theorem wy.inv{m:aR}(h:wy m)(ι:2<=m.st.free.length):Inv m:=⟨h.base.gx,h.len,h.ok,h.fit,h.base.fa,h.base.gH,h.base.blocks,ι,h.st.free,h.st.head,h.dev.dev,h.dev.off,h.dev.after,h.dev.me,h.n5,h.qi,h.dl,h.mX,h.seq⟩
theorem Eu{m:aR}(ψ:nH m)(af:sA m):40<=m.d.now.length:=by
 have:=arq ψ
 have:=af.me
 omega
theorem YV{m:aR}(h:wy m)(aC:m.seq+1<=1073741824):CD m (qI m):=
 ⟨rfl,rfl,rfl,rfl,rfl,Sl _ h.base.fa,ass (iA.flush (iA.refl h.dev.dev)) (Eu h.base h.dev) ⟨by have:=h.seq;omega,aC⟩ h.fit h.ok h.len,rfl,rfl,rfl,rfl,rfl⟩
theorem CD.vK{m m':aR}(c:CD m m')(h:wy m):wy m':=by
 refine⟨⟨by rw[c.s,c.k];exact h.base.gx,c.fr.fa,by rw[c.fr.gH,c.s];exact h.base.gH,by rw[c.fr.blocks,c.k];exact h.base.blocks⟩,⟨c.low.fa,c.low.off.trans h.dev.off,c.low.after.trans h.dev.after,by rw[c.low.len,c.s,c.k];exact h.dev.me⟩,by rw[c.R];exact h.len,by rw[c.R];exact h.ok,by rw[c.s,c.k,c.R];exact h.fit,?_,by rw[c.stamps,c.s];exact h.n5,by rw[c.stamps,c.clock];exact h.qi,by rw[c.dl];exactλd af=>(by cases af),by rw[c.mX];omega,by rw[c.seq];have:=h.seq;omega⟩;rw[c.R];refine⟨λx I hm=>?_,λx I e=>?_⟩
 ·rcases(c.fr.mem _).1 hm with hm|⟨hm,_⟩
  ·exact h.st.free x I hm
  ·obtain⟨i,o,e,aL,_⟩:=UA.1 hm;exact aL x ((HC h.ok).2 I) (by omega)
 ·rw[c.fr.head]at e;rw[c.fr.used];exact h.st.head x I e
theorem CD.len{m m':aR}(c:CD m m')(h:wy m):m.st.free.length<=m'.st.free.length:=
 rW _ _ (adR h.base.fa.Fk) λx I=>(c.fr.mem x).2 (.inl I)
theorem Rn{m:aR}(h:Inv m)(aC:m.seq+1<=1073741824):Inv (qI m)/\CD m (qI m):=by
 have c:=YV h.vK aC
 have:=c.len h.vK
 have:=h.two
 exact⟨(c.vK h.vK).inv (by omega),c⟩
theorem sum_add(f:Nat->Nat)(a:Nat):∀n,((List.range n).map λi=>f i+if a=i then 1 else 0).sum=((List.range n).map f).sum+if a<n then 1 else 0
 |0=>rfl
 |n+1=>by rw[uP,q0,q0,Pd,Pd,sum_add f a n];simp only[xw,List.map_nil,List.sum_cons,List.sum_nil];split<;>split<;>split<;>omega
theorem aeB(n:Nat):∀V:List dh,(∀x∈V,x.1<n)->((List.range n).map λi=>(V.filter λx=>x.1==i).length).sum=V.length
 |[],_=>by
  have:∀n,((List.range n).map λi=>(([]:List dh).filter λx=>x.1==i).length).sum=0:=λn=>by
   induction n with
   |zero=>rfl
   |succ n ch=>rw[uP,q0,Pd,ch];rfl
  exact this n
 |x::V,h=>by
  have e:(λi=>((x::V).filter λy=>y.1==i).length)=λi=>(V.filter λy=>y.1==i).length+if x.1=i then 1 else 0:=by
   funext i
   rw[List.filter_cons];by_cases I:x.1=i
   ·simp[I]
   ·simp[I]
  rw[e,sum_add,aeB n V λy ah=>h y (hW _ ah),aS (h x (by simp))];rfl
theorem aeC(f:Nat->Nat)(k:Nat):∀n,((List.range n).filter λi=>decide (k<=f i)).length*k<=((List.range n).map f).sum
 |0=>by simp
 |n+1=>by
  have ch:=aeC f k n;rw[uP,B9,q0,Pd,fe,k7]
  have:([n].filter λi=>decide (k<=f i)).length*k<=([n].map f).sum:=by
   by_cases h:k<=f n
   ·simp[h]
   ·simp[h]
  omega
def pO(V:List dh)(i:Nat):Nat:=(V.filter λx=>x.1==i).length
theorem aj9{n:Nat}(V:List dh){i:Nat}(o:i<n):(hU n V).getD i 0=(pO V i:Int):=by rw[List.getD_eq_getElem?_getD,GG V o];rfl
theorem YN{k:Int}{n:Nat}{V:List dh}{h:Int}{i:Nat}(o:i<n):vH k (hU n V) h i=true↔0<pO V i/\(pO V i:Int)<k/\(i:Int)≠h:=by unfold vH;rw[aj9 V o];simp only[kx,po];omega
theorem Vj{k:Int}{n:Nat}{V:List dh}{iu:an}{h:Int}{g:Nat}(e:r6 k (hU n V) iu h=some g):g<n/\0<pO V g/\(pO V g:Int)<k/\(g:Int)≠h:=by
 unfold r6 at e;rw[Dl]at e;dsimp only at e;split at e
 ·cases e
 ·rename_i ca;cases e;have vG:0<(hj k (hU n V) h n).length:=VD.2 ca;have ψ:=MH (qT k (hU n V) iu (hj k (hU n V) h n)) (q7 k (hU n V) (hj k (hU n V) h n)) (ew _) (show 1<=(hj k (hU n V) h n).length by omega);have hm:=YL _ (show(hj k (hU n V) h n).getD (qH (qT k (hU n V) iu (hj k (hU n V) h n)) (q7 k (hU n V) (hj k (hU n V) h n)) (hj k (hU n V) h n).length) 0∈hj k (hU n V) h n by
   rw[List.getD_eq_getElem?_getD,List.getElem?_eq_getElem ψ];exact hF ψ)
  exact⟨hm.1,(YN hm.1).1 hm.2⟩
theorem aq7{k:Int}{n:Nat}{V:List dh}{iu:an}{h:Int}(e:r6 k (hU n V) iu h=none){i:Nat}(o:i<n)(ca:(i:Int)≠h):pO V i=0\/k<=pO V i:=by
 unfold r6 at e;rw[Dl]at e;dsimp only at e;split at e
 ·rename_i π;by_cases aD:pO V i=0
  ·exact .inl aD
  ·refine .inr ?_;by_cases hk:(pO V i:Int)<k
   ·have:i∈hj k (hU n V) h n:=mv.2 ⟨ns.2 o,(YN o).2 ⟨by omega,hk,ca⟩⟩
    rw[π]at this;cases this
   ·omega
 ·cases e
structure WZ(m m':aR)(g:dh->dh):Prop where
 R:m'.R=kb g m.R
 inj:QJ g (used m.R)
 sec:∀x∈used m.R,hf m.k m'.d (g x)=hf m.k m.d x
 s:m'.s=m.s
 k:m'.k=m.k
 clock:m'.clock=m.clock
 seq:m'.seq=m.seq+1
 dl:m'.dl=[]
 mX:m'.used=0
 loose:m'.d.loose=[]
 lj:m'.lj=false
theorem asd{m:aR}(h:nH m)(υ:bw.room m.st 2=false):bw.full m.st=true/\m.st.free.length<=2:=by
 unfold bw.room at υ;simp only[Bool.and_eq_false_iff,OV,Bool.not_eq_false',K0]at υ;rcases υ with υ|⟨h1,ι⟩
 ·omega
 ·exact⟨h1,by omega⟩
theorem adU{m:aR}(h:bw.full m.st=false\/3<=m.st.free.length):bw.room m.st 2=true:=by
 unfold bw.room;rcases h with h|h
 ·simp[h]
 ·simp;right;omega
theorem Lp{m:aR}(h:nH m):(m.s.toNat:Int)=m.s:=by have:=h.gx;omega
theorem ap8{m:aR}(h:wy m){m':aR}(c:CD m m')(hp:r6 m.k (hU m.s.toNat (lays (used m.R))) (om m) m.st.head=none)(aj:(iF m.R:Int)+1<=m.cap):4<=m'.st.free.length:=by
 have ω:=Lp h.base;have bJ:=h.base.gx;obtain⟨f1,f2,f3⟩:=(lu bJ).1 h.fit;have nM:∀x,x∈lays (used m.R)↔x∈used m.R:=λx=>HC h.ok;have amm:(lays (used m.R)).length=iF m.R:=by rw[<-Kv λx=>kl (used m.R) x,Ht (λx I=>q8 h.ok x ((kl _ _).1 I)) (xl _)];rfl
 have aoy:=aeB m.s.toNat (lays (used m.R)) λx I=>by have:=f2 x ((nM x).1 I);omega
 have yu:=aeC (pO (lays (used m.R))) m.k.toNat m.s.toNat;have aO:((List.range m.s.toNat).map (pO (lays (used m.R)))).sum=iF m.R:=aoy.trans amm;rw[aO]at yu;generalize j9:((List.range m.s.toNat).filter λi=>decide (m.k.toNat<=pO (lays (used m.R)) i))=F at yu;have awN:F.length+5<=m.s.toNat:=by
  unfold aR.cap at aj;have hk:(m.k.toNat:Int)=m.k:=by omega
  rcases H6 (F.length+4) m.s.toNat with h|h
  ·omega
  ·have h1:(m.s-4)*m.k<=(F.length:Int)*m.k:=HZ (by omega) (by omega);have ι:(F.length:Int)*m.k<=iF m.R:=by
    have:((F.length*m.k.toNat:Nat):Int)<=iF m.R:=by exact_mod_cast yu
    rw[Int.natCast_mul,hk]at this;exact this
   omega
 let Ml:=(List.range m.s.toNat).filter λi=>decide (pO (lays (used m.R)) i=0)&&decide ((i:Int)≠m.st.head)
 have aw6:m.s.toNat<=F.length+Ml.length+1:=by
  have:=rW (List.range m.s.toNat) (F++(Ml++[m.st.head.toNat])) O5 λi o=>by
   have kX:=ns.1 o;by_cases ca:(i:Int)=m.st.head
   ·simp only[iG,lB];exact .inr (.inr (by omega))
   ·rcases aq7 hp kX ca with aD|aD
    ·refine iG.2 (.inr (iG.2 (.inl (mv.2 ⟨o,?_⟩))));simp[aD,ca]
    ·refine iG.2 (.inl ?_);rw[<-j9];exact mv.2 ⟨o,bB (by omega)⟩
  simp only[Cc,fe,AA]at this;omega
 have b4:Ml.length<=m'.st.free.length:=by
  have:=rW (Ml.map λ(i:Nat)=>(i:Int)) m'.st.free (by
   refine Pc (S:=λa b=>a≠b) (R:=λa b=>a≠b) _ (λa b h e=>h (by omega)) ?_;exact(O5 (n:=m.s.toNat)).filter _) λx I=>by
   obtain⟨i,o,rfl⟩:=gO.1 I;obtain⟨h1,ι⟩:=mv.1 o;simp only[kx,po]at ι;have kX:=ns.1 h1;refine(c.fr.mem _).2 (.inr ⟨UA.2 ⟨i,kX,rfl,λz aL e=>?_,ι.2⟩,by omega,by rw[h.base.gH];omega,ι.2⟩)
   have:=List.length_eq_zero_iff.1 ι.1
   have hm:z∈(lays (used m.R)).filter λx=>x.1==i:=mv.2 ⟨aL,by simpa using e⟩;rw[this]at hm;cases hm
  rwa[jV]at this
 omega
theorem YW{m:aR}(h:Inv m)(aC:m.seq+1<=1073741824)(aD:0<=m.clock):Inv (pN m)/\(∃g,WZ m (pN m) g)/\(bw.room m.st 2=false->(iF m.R:Int)+1<=m.cap->bw.room (pN m).st 2=true):=by
 have ω:=Lp h.base;have bJ:=h.gx;obtain⟨f1,f2,f3⟩:=(lu bJ).1 h.fit;unfold pN;cases hp:r6 m.k (hU m.s.toNat (lays (used m.R))) (om m) m.st.head with
 |none=>
  obtain⟨o,c⟩:=Rn h aC;refine⟨o,⟨id,by rw[ab5];exact c.R,λ_ _ _ _ h=>h,λx I=>c.low.sec (by omega) x,c.s,c.k,c.clock,c.seq,c.dl,c.mX,c.loose,c.lj⟩,λ_ aj=>?_⟩
  have:=ap8 h.vK c hp aj
  exact adU (.inr (by dsimp only;omega))
 |some g=>
  dsimp only;obtain⟨g1,g2,g3,g4⟩:=Vj hp;have Tx:∀x,x∈lays (used m.R)↔x∈used m.R:=λx=>HC h.ok;have hV:∀x,x∈e3 m g↔x∈used m.R/\x.1=g:=λx=>by unfold e3;rw[mv,Tx,po];exact⟨λ⟨a,b⟩=>⟨a,by omega⟩,λ⟨a,b⟩=>⟨a,by omega⟩⟩
  have Kl:(e3 m g).Nodup:=(Kw _).filter _;have oD:(e3 m g).length=pO (lays (used m.R)) g:=by
   unfold e3 pO;congr 1;apply List.filter_congr;intro x _;by_cases e:x.1=g
   ·rw[bB (by omega)];symm;simpa using e
   ·rw[iy (by omega)];symm;simpa using e
  have dj:=Rx (e3 m g) m (used m.R) h.base h.wK h.Ir (λx I=>((hV x).1 I).1) f2 (.inl ⟨h.two,by omega⟩);generalize abz:e3 m g=xs at dj hV Kl oD;generalize aw4:hK m xs=q at dj⊢;obtain⟨HA,ys⟩:=q;dsimp only at dj⊢;have vF:∀y∈ys,y∉used m.R/\gF y:=λy ah=>⟨dj.new y ah,by have:=dj.lt y ah;unfold gF;omega⟩;obtain⟨aa3,f,aO,bE,gw,iZ⟩:=UE xs ys m.R Kl dj.k4 dj.len (λx I=>((hV x).1 I).1) vF;have NK:∀x∈xs,f x∈ys:=λx I=>by rw[gw];exact gO.2 ⟨x,I,rfl⟩
  have TU:∀z,z∈used (k3 m.R xs ys)↔∃w∈used m.R,f w=z:=λz=>by rw[aO,P8,gO]
  have mN:∀z∈used (k3 m.R xs ys),z∈ys\/(z∈used m.R/\z∉xs):=λz aL=>by
   obtain⟨w,hw,rfl⟩:=(TU z).1 aL;by_cases I:w∈xs
   ·exact .inl (NK w I)
   ·rw[bE w hw I];exact .inr ⟨hw,I⟩
  have J0:wy {HA with R:=k3 m.R xs ys}:=by
   refine⟨⟨dj.base.gx,dj.base.fa,dj.base.gH,dj.base.blocks⟩,⟨dj.dev.dev,dj.dev.off,dj.dev.after,dj.dev.me⟩,?_,?_,?_,?_,?_,?_,?_,?_,?_⟩
   ·dsimp only;rw[aO];unfold kb;rw[jV];exact h.len
   ·dsimp only;intro e he;refine OE (λq aC=>?_) (FF f1 e he);cases q with
    |none=>trivial
    |some z=>
     rcases mN z (vJ.2 ⟨e,he,aC⟩)with aL|aL
     ·exact(vF z aL).2
     ·exact q8 h.ok z aL.1
   ·dsimp only;rw[dj.s,dj.k];refine(lu bJ).2 ⟨FF f1,λz aL=>?_,by rw[aO,abU iZ];exact f3⟩;rcases mN z aL with aL|aL
    ·exact dj.lt z aL
    ·exact f2 z aL.1
   ·dsimp only;refine⟨λz aL=>dj.ok.free z ?_,λz aL=>dj.ok.head z ?_⟩
    ·rcases mN z aL with aL|aL
     ·exact iG.2 (.inl aL)
     ·exact iG.2 (.inr aL.1)
    ·rcases mN z aL with aL|aL
     ·exact iG.2 (.inl aL)
     ·exact iG.2 (.inr aL.1)
   ·dsimp only;rw[dj.n5,dj.s];exact h.n5
   ·dsimp only;rw[dj.clock];exact dj.qi h.qi aD
   ·dsimp only;rw[dj.dl];exact h.dl
   ·dsimp only;rw[dj.mX];exact h.mX
   ·dsimp only;rw[dj.seq];exact h.seq
  have aop:HA.seq+1<=1073741824:=by rw[dj.seq];exact aC
  have c:=YV J0 aop;obtain⟨cc,rQ⟩:∃x,x∈xs:=by
   cases xs with
   |nil=>simp at oD;omega
   |cons a l=>exact⟨a,n2⟩
  have aaK:(g:Int)∉m.st.free:=by
   have:=h.free cc ((hV cc).1 rQ).1
   rwa[((hV cc).1 rQ).2]at this
  have TB:∀{a:Int},a=m.st.head\/a∈m.st.free->a≠g:=λaQ e=>by
   rcases aQ with aQ|aQ
   ·exact g4 (by omega)
   ·exact aaK (e▸aQ)
  have anq:(g:Int)∈(qI {HA with R:=k3 m.R xs ys}).st.free:=by
   refine(c.fr.mem _).2 (.inr ⟨UA.2 ⟨g,by dsimp only;rw[dj.s];exact g1,rfl,λz aL e=>?_,λe=>TB dj.head e.symm⟩,by omega,by dsimp only;rw[dj.base.gH,dj.s];omega,λe=>TB dj.head e.symm⟩);rcases mN z ((HC J0.ok).1 aL)with aL|aL
   ·exact TB (dj.ad4 z aL) (by omega)
   ·exact aL.2 ((hV z).2 ⟨aL.1,e⟩)
  have aoC:2<=(qI {HA with R:=k3 m.R xs ys}).st.free.length:=by
   have nk:((g:Int)::HA.st.free).Nodup:=K9.2 ⟨λhm=>aaK (dj.sub _ hm),adR dj.base.fa.Fk⟩
   have:=rW _ (qI {HA with R:=k3 m.R xs ys}).st.free nk λx I=>by
    rcases fA.1 I with rfl|I
    ·exact anq
    ·exact(c.fr.mem _).2 (.inl I)
   have bg:=dj.fT;simp only[k5]at this;omega
  refine⟨(c.vK J0).inv aoC,⟨f,c.R.trans aO,iZ,λx I=>?_,c.s.trans dj.s,c.k.trans dj.k,c.clock.trans dj.clock,?_,c.dl,c.mX,c.loose,c.lj⟩,λυ aj=>?_⟩
  ·have nj:=c.low.sec (k:=m.k) (by omega) (f x);rw[nj];dsimp only;by_cases w8:x∈xs
   ·have lO:=dj.sec;rw[gw,Cf]at lO
    have:=List.map_inj_left.1 lO x w8
    exact this
   ·rw[bE x I w8];exact dj.old x (f2 x I) λhm=>dj.new x hm I
  ·have:=c.seq
   dsimp only at this;rw[this,dj.seq]
  ·have yu:=(asd h.base υ).1;have aa6:=dj.acp (.inl ⟨yu,λe=>by rw[e]at rQ;cases rQ⟩);refine adU (.inl ?_);unfold bw.full at aa6⊢;rw[c.fr.head,c.fr.used,c.fr.blocks];exact aa6
theorem Bk:qw 0:=⟨by decide,by decide⟩
theorem aku{i:Nat}(o:i<8){s:Int}(ω:1<=s/\s<=32):hS ⟨1,i,0,s,0,0⟩=0:=by simp[hS,eh.ji,nU,s0,sZ,rU,rV];omega
theorem akv{v:Int}(aJ:0<=v/\v<8):hS ⟨2,v,0,0,0,0⟩=0:=by simp[hS,eh.ji,nU,s0,sZ,rU,rV];omega
theorem akw{v:Int}(aJ:0<=v/\v<8){i:Nat}(o:i<8)(ca:(i:Int)≠v):hS ⟨3,v,i,0,0,0⟩=0:=by simp[hS,eh.ji,nU,s0,sZ,rU,rV];omega
theorem akx{v b:Int}(aJ:0<=v/\v<8)(ψ:0<=b/\b<32){x:dh}(I:gF x):hS ⟨4,v,0,b,x.1,x.2⟩=0:=by have h1:=I.1;have ι:=I.2;simp[hS,eh.ji,nU,s0,sZ,rU,rV,whole];omega
theorem aky{v b:Int}(aJ:0<=v/\v<8)(ψ:0<=b/\b<32):hS ⟨5,v,0,b,0,0⟩=0:=by simp[hS,eh.ji,nU,s0,sZ,rU,rV];omega
theorem aef{e:fF}(h:qz e)(b:Nat)(q:ea):qz (e.1,e.2.1,e.2.2.set b q):=⟨by show((e.2.2.set b q).length:Int)=_;rw[im];exact h.1,h.2.1,h.2.2.1,h.2.2.2⟩
theorem Pu{R:bR}{v:Nat}{e:fF}(h:R[v]?=some e)(b:Nat)(q:ea):jv R v b q=R.set v (e.1,e.2.1,e.2.2.set b q):=by unfold jv;rw[h]
structure xV(m:aR)(n:Nat):Prop where
 seq:m.seq<=n
 clock:0<=m.clock/\m.clock<=n
 dl:m.dl.length<=n
 loose:m.d.loose.length<=n
theorem xV.more{m:aR}{n eX:Nat}(h:xV m n)(ax:n<=eX):xV m eX:=⟨by have:=h.seq;omega,by have:=h.clock;omega,by have:=h.dl;omega,by have:=h.loose;omega⟩
theorem atw{m:aR}(h:Inv m):Inv (tick m):=⟨h.gx,h.len,h.ok,h.fit,h.fa,h.gH,h.blocks,h.two,h.free,h.head,h.dev,h.off,h.after,h.me,h.n5,λt aP=>by have:=h.qi t aP;show 0<=t/\t<=m.clock+1;omega,h.dl,h.mX,h.seq⟩
theorem atv{m:aR}{n:Nat}(h:xV m n):xV (tick m) (n+1):=⟨by have:=h.seq;show m.seq<=_;omega,by have:=h.clock;show 0<=m.clock+1/\m.clock+1<=_;omega,by have:=h.dl;show m.dl.length<=_;omega,by have:=h.loose;show m.d.loose.length<=_;omega⟩
theorem aeD{m:aR}(h:Inv m)(aC:m.seq+1<=1073741824):Inv (xF m)/\(xF m).R=m.R/\iA m.d (xF m).d/\(xF m).s=m.s/\(xF m).k=m.k/\(∀n,xV m n->xV (xF m) (n+1)):=by
 unfold xF;split
 ·exact⟨h,rfl,iA.refl h.dev,rfl,rfl,λn bg=>bg.more (by omega)⟩
 ·split
  ·obtain⟨o,c⟩:=Rn h aC;exact⟨o,c.R,c.low,c.s,c.k,λn bg=>⟨by rw[c.seq];have:=bg.seq;omega,by rw[c.clock];have:=bg.clock;omega,by rw[c.dl];exact en _,by rw[c.loose];exact en _⟩⟩
  ·rename_i hlen;have hp:m.used+j2 m.dl.length<=16:=by have:=h.mX;unfold j2;omega
   have aj:iA m.d (kK (Ck (kK m.d) m.seq m.used m.dl)):=iA.flush (ael (iA.flush (iA.refl h.dev)) (Eu h.base h.wK) m.seq h.dl hp);refine⟨⟨h.gx,h.len,h.ok,h.fit,h.fa,h.gH,h.blocks,h.two,h.free,h.head,aj.fa,aj.off.trans h.off,aj.after.trans h.after,?_,h.n5,h.qi,(λd af=>by cases af),hp,h.seq⟩,rfl,aj,rfl,rfl,λn bg=>⟨by have:=bg.seq;show m.seq<=_;omega,by have:=bg.clock;show 0<=m.clock/\m.clock<=_;omega,en _,en _⟩⟩;dsimp only;rw[aj.len];exact h.me
theorem ahn{m:aR}(h:Inv m){v b:Int}{e:fF}(he:fS m.R v=some e)(hk:e.1≠2)(ψ:0<=b/\b<e.2.1){bs:an}(ω:a6.kE bs)(aj:(iF m.R:Int)+1<=m.cap)(υ:bw.room m.st 2=true):
  Mp m (fP m bs 2).1 (fP m bs 2).2 bs (used m.R)/\Inv (oK {(fP m bs 2).1 with R:=jv m.R v.toNat b.toNat (some (fP m bs 2).2)} ⟨4,v,0,b,(fP m bs 2).2.1,(fP m bs 2).2.2⟩):=by
 have dC:=OP h.base h.Ir (show(0:Int)<=2 by decide) υ bs;refine⟨dC,?_⟩;generalize hp:(fP m bs 2).1=m1 at dC⊢;generalize ah:(fP m bs 2).2=x at dC⊢;obtain⟨v0,bj,aJ,Hb⟩:=zL he;obtain⟨f1,f2,f3⟩:=(lu h.gx).1 h.fit;have ep:=f1 e (eZ aJ);have ka:=Pu aJ b.toNat (some x);have I:gF x:=by have:=dC.lt;have:=h.gx;unfold gF;omega
 have jb:∀z∈used (jv m.R v.toNat b.toNat (some x)),z∈used m.R\/z=x:=λz aL=>by
  rw[ka]at aL;rcases agL aL with h1|h1
  ·exact .inl h1
  ·rcases pk h1 with ι|ι
   ·exact .inl (vJ.2 ⟨e,eZ aJ,ι⟩)
   ·cases ι;exact .inr rfl
 have af:=dC.dev h.base h.wK ω;have hC:∀z∈used (jv m.R v.toNat b.toNat (some x)),z∈x::used m.R:=λz aL=>by
  rcases jb z aL with h1|h1
  ·exact hW _ h1
  ·rw[h1];exact n2
 have aaf:lo (jv m.R v.toNat b.toNat (some x)):=λcO dG=>by
  rw[ka]at dG;rcases pk dG with h1|rfl
  ·exact f1 cO h1
  ·exact aef ep _ _
 have bM:∀z∈used (jv m.R v.toNat b.toNat (some x)),(z.1:Int)<m.s/\(z.2:Int)<m.k:=λz aL=>by
  rcases jb z aL with h1|h1
  ·exact f2 z h1
  ·rw[h1];exact dC.lt
 have awV:e.2.1<33:=(ep.2.2.2 Hb).2;refine⟨dC.base.gx,by show(jv m.R v.toNat b.toNat (some x)).length=8;rw[ad6];exact h.len,λcO dG=>OE (λq aC=>?_) (aaf cO dG),?_,dC.base.fa,dC.base.gH,dC.base.blocks,?_,λz aL=>dC.ok.free z (hC z aL),λz aL=>dC.ok.head z (hC z aL),af.dev,af.off,af.after,af.me,?_,?_,?_,?_,?_⟩
 ·cases q with
  |none=>trivial
  |some z=>
   have:=bM z (vJ.2 ⟨cO,dG,aC⟩)
   have:=h.gx
   show gF z;unfold gF;omega
 ·show lG m1.s m1.k _;rw[dC.s,dC.k]
  have:=apu jb
  refine(lu h.gx).2 ⟨aaf,bM,?_⟩;unfold aR.cap at aj;show(iF (jv m.R v.toNat b.toNat (some x)):Int)<=_;omega
 ·show 2<=m1.st.free.length;rcases dC.fT with⟨g1,g2,g3⟩|⟨g1,g2,g3⟩
  ·have:2<m.st.free.length:=by
    unfold bw.room at υ;rw[g1]at υ;simp at υ;omega
   omega
  ·rw[g2];exact h.two
 ·show m1.stamps.length=m1.s.toNat;rw[dC.stamps,im,dC.s];exact h.n5
 ·show∀t∈m1.stamps,0<=t/\t<=m1.clock;rw[dC.stamps,dC.clock];intro t aP;rcases pk aP with h1|rfl
  ·exact h.qi t h1
  ·have aj:0<m.stamps.length:=by rw[h.n5];have:=h.gx;omega
   have:=h.qi m.stamps[0] (hF aj)
   omega
 ·show∀d∈m1.dl++[_],d.wf/\hS d=0;rw[dC.dl];exact Zb h ⟨⟨by show(0:Int)<=x.1;omega,by have:=I.1;show(x.1:Int)<256;omega⟩,⟨by show(0:Int)<=x.2;omega,by have:=I.2;show(x.2:Int)<256;omega⟩⟩ (akx ⟨v0,bj⟩ ⟨ψ.1,by omega⟩ I)
 ·show m1.used<=16;rw[dC.mX];exact h.mX
 ·show 1<=m1.seq;rw[dC.seq];exact h.seq
structure Mm(m:aR)(r:aR×gS):Prop where
 inv:Inv r.1
 bad:r.2.e≠0->r.1=m
 s:r.1.s=m.s
 k:r.1.k=m.k
 fT:∀n,xV m n->xV r.1 (n+1)
theorem akK{m:aR}(h:Inv m)(aC:m.seq+1<=1073741824){a:Ask}(aQ:∀x∈a.bs,0<=x/\x<256):Mm m (eS m a):=by
 obtain⟨f1,f2,f3⟩:=(lu h.gx).1 h.fit;have same:∀(e:Int),Mm m (fail m e):=λe=>⟨h,λ_=>rfl,rfl,rfl,λn bg=>bg.more (by omega)⟩;have plain:∀r:gS,Mm m (m,r):=λr=>⟨h,λ_=>rfl,rfl,rfl,λn bg=>bg.more (by omega)⟩;have Ot:∀(i:Nat)(e:fF)(d:fx)(r:gS),r.e=0->qz e->(∀x,some x∈e.2.2->x∈used m.R)->d.wf->hS d=0->Mm m (oK {m with R:=m.R.set i e} d,r):=by intro i e d r υ ep mN hw π;exact⟨h.set ⟨rfl,rfl,rfl,rfl,rfl,rfl,rfl,rfl⟩ rfl ep mN (Zb h hw π),λax=>absurd υ ax,rfl,rfl,λn bg=>⟨by have:=bg.seq;show m.seq<=_;omega,by have:=bg.clock;show 0<=m.clock/\m.clock<=_;omega,by have:=bg.dl;show(m.dl++[d]).length<=_;rw[fe];simp;omega,by have:=bg.loose;show m.d.loose.length<=_;omega⟩⟩
 unfold eS;split
 ·split
  ·rename_i ω;cases k0:lf m.R with
   |none=>exact same 7
   |some i=>
    have o:=(Pv h.len k0).1;refine Ot i _ _ _ rfl ⟨?_,?_,?_,?_⟩ (λx I=>?_) ⟨Bk,Bk⟩ (aku o ω)
    ·show((List.replicate a.s.toNat none).length:Int)=a.s;rw[se];omega
    ·exact⟨by dsimp only;omega,by dsimp only;omega⟩
    ·exactλe=>by cases e
    ·exactλ_=>by dsimp only;omega
    ·have:=uN I;cases this
  ·exact same 5
 split
 ·cases he:fS m.R a.v with
  |none=>exact same 4
  |some e=>
   obtain⟨v0,bj,aJ,hk⟩:=zL he;exact Ot a.v.toNat (0,0,[]) _ _ rfl ⟨rfl,⟨by decide,by decide⟩,λ_=>rfl,λe=>absurd rfl e⟩ (λx I=>by cases I) ⟨Bk,Bk⟩ (akv ⟨v0,bj⟩)
 split
 ·cases he:fS m.R a.v with
  |none=>exact same 4
  |some e=>
   obtain⟨v0,bj,aJ,hk⟩:=zL he;cases k0:lf m.R with
   |none=>exact same 7
   |some i=>
    obtain⟨o,hl,Tl,Hb⟩:=Pv h.len k0;have ep:=f1 e (eZ aJ);refine Ot i (2,e.2.1,e.2.2) _ _ rfl ⟨ep.1,⟨by dsimp only;omega,by dsimp only;omega⟩,(λe=>by cases e),λ_=>ep.2.2.2 hk⟩ (λx I=>vJ.2 ⟨e,eZ aJ,I⟩) ⟨Bk,Bk⟩ (akw ⟨v0,bj⟩ o λei=>?_)
    have:a.v.toNat=i:=by omega
    rw[this,Tl]at aJ;cases aJ;exact hk Hb
 split
 ·cases he:fS m.R a.v with
  |none=>exact same 4
  |some e=>
   dsimp only;split
   ·exact same 5
   ·split
    ·exact plain _
    ·exact plain _
 split
 ·unfold IL;cases he:fS m.R a.v with
  |none=>exact same 4
  |some e=>
   dsimp only;split
   ·exact same 8
   split
   ·exact same 5
   split
   ·exact same 6
   split
   ·exact same 9
   split
   ·exact same 12
   ·rename_i ι ψ aj π υ;have ω:a6.kE a.bs:=⟨by omega,aQ⟩;obtain⟨dC,o⟩:=ahn h he ι (b:=a.b) (by omega) ω (by omega) (by simpa using υ);refine⟨o,λax=>absurd rfl ax,dC.s,dC.k,λn bg=>⟨?_,?_,?_,?_⟩⟩
    ·show(fP m a.bs 2).1.seq<=_;rw[dC.seq];have:=bg.seq;omega
    ·show 0<=(fP m a.bs 2).1.clock/\(fP m a.bs 2).1.clock<=_;rw[dC.clock];have:=bg.clock;omega
    ·show((fP m a.bs 2).1.dl++[_]).length<=_;rw[dC.dl,fe];have:=bg.dl;simp;omega
    ·show(fP m a.bs 2).1.d.loose.length<=_;rw[dC.d];show(m.d.loose++[_]).length<=_;rw[fe];have:=bg.loose;simp;omega
 split
 ·cases he:fS m.R a.v with
  |none=>exact same 4
  |some e=>
   dsimp only;split
   ·exact same 8
   split
   ·exact same 5
   ·rename_i ι ψ;obtain⟨v0,bj,aJ,hk⟩:=zL he;have ep:=f1 e (eZ aJ);have ur:=(ep.2.2.2 hk).2;rw[Pu aJ];refine Ot a.v.toNat _ _ _ rfl (aef ep _ _) (λx I=>?_) ⟨Bk,Bk⟩ (aky ⟨v0,bj⟩ (by omega));rcases pk I with I|I
    ·exact vJ.2 ⟨e,eZ aJ,I⟩
    ·cases I
 split
 ·obtain⟨g1,g2,g3,g4,g5,g6⟩:=aeD h aC;exact⟨g1,λax=>absurd rfl ax,g4,g5,g6⟩
 split
 ·exact plain _
 ·cases he:fS m.R a.v with
  |none=>exact same 4
  |some e=>exact plain _
abbrev l5:=Nat×an
abbrev jJ:=Int×Int×List (Option l5)
structure eL where
 s:Int
 k:Int
 E:List jJ
 n:Nat
def nn(E:List jJ):List l5:=E.flatMap λe=>e.2.2.filterMap id
def xh(f:Nat->dh)(E:List jJ):bR:=E.map λe=>(e.1,e.2.1,e.2.2.map (Option.map λx=>f x.1))
def xf(E:List jJ):Nat:=(gm ((nn E).map λx=>(x.1,0))).length
def ja(E:List jJ)(v:Int):Option jJ:=if 0<=v/\v<8 then(E[v.toNat]?).filter λe=>decide (e.1≠0)else none
def qh(E:List jJ):Option Nat:=E.findIdx? λe=>decide (e.1=0)
def eL.cap(A:eL):Int:=(A.s-4)*A.k
def yY(E:List jJ)(v b:Nat)(q:Option l5):List jJ:=match E[v]?with
 |some e=>E.set v (e.1,e.2.1,e.2.2.set b q)
 |none=>E
def mJ(A:eL)(e:Int):eL×gS:=(A,⟨e,0,[],[]⟩)
def lI(A:eL)(a:Ask):eL×gS:=
 if a.k=1 then
  (if 1<=a.s/\a.s<=32 then(match qh A.E with
   |none=>mJ A 7
   |some i=>({A with E:=A.E.set i (1,a.s,List.replicate a.s.toNat none)},{hd with id:=i}))else mJ A 5)
 else if a.k=2 then(match ja A.E a.v with
  |none=>mJ A 4
  |some _=>({A with E:=A.E.set a.v.toNat (0,0,[])},hd))
 else if a.k=3 then(match ja A.E a.v with
  |none=>mJ A 4
  |some e=>(match qh A.E with
   |none=>mJ A 7
   |some i=>({A with E:=A.E.set i (2,e.2.1,e.2.2)},{hd with id:=i})))
 else if a.k=4 then(match ja A.E a.v with
  |none=>mJ A 4
  |some e=>if a.b<0\/e.2.1<=a.b then mJ A 5 else(match(e.2.2[a.b.toNat]?).join with
   |none=>(A,{hd with bs:=a6.ia})
   |some x=>(A,{hd with bs:=x.2})))
 else if a.k=5 then(match ja A.E a.v with
  |none=>mJ A 4
  |some e=>
   if e.1=2 then mJ A 8
   else if a.b<0\/e.2.1<=a.b then mJ A 5
   else if a.bs.length≠64 then mJ A 6
   else if A.cap<(xf A.E:Int)+1 then mJ A 9
   else({A with E:=yY A.E a.v.toNat a.b.toNat (some (A.n,a.bs)),n:=A.n+1},hd))
 else if a.k=6 then(match ja A.E a.v with
  |none=>mJ A 4
  |some e=>if e.1=2 then mJ A 8 else if a.b<0\/e.2.1<=a.b then mJ A 5
   else({A with E:=yY A.E a.v.toNat a.b.toNat none},hd))
 else if a.k=7 then(A,hd)
 else if a.k=8 then(A,{hd with qR:=[(xf A.E:Int),A.cap]})
 else(match ja A.E a.v with
  |none=>mJ A 4
  |some e=>(A,{hd with qR:=[e.1,e.2.1]}))
structure ln(m:aR)(A:eL)(f:Nat->dh):Prop where
 s:A.s=m.s
 k:A.k=m.k
 R:m.R=xh f A.E
 inj:∀x∈nn A.E,∀y∈nn A.E,f x.1=f y.1->x.1=y.1
 sec:∀x∈nn A.E,hf m.k m.d (f x.1)=x.2
 lt:∀x∈nn A.E,x.1<A.n
theorem Ey{E:List jJ}{x:l5}:x∈nn E↔∃e∈E,some x∈e.2.2:=by
 unfold nn;rw[oU];constructor
 ·rintro⟨e,h,k⟩;obtain⟨a,aQ,bE⟩:=uQ.1 k;cases a with
  |none=>cases bE
  |some y=>cases bE;exact⟨e,h,aQ⟩
 ·rintro⟨e,h,k⟩;exact⟨e,h,uQ.2 ⟨_,k,rfl⟩⟩
theorem Wu(f:Nat->dh)(E:List jJ):used (xh f E)=(nn E).map λx=>f x.1:=by
 unfold used xh nn;rw[List.flatMap_map,List.map_flatMap];congr 1
 funext e
 unfold pB;dsimp only
 induction e.2.2 with
 |nil=>rfl
 |cons q l ch=>cases q with|none=>simpa using ch|some x=>simpa using ch
theorem aqb{α:Type}(f g:α->dh):∀(l:List α),(∀x∈l,∀y∈l,f x=f y↔g x=g y)->(gm (l.map f)).length=(gm (l.map g)).length:=by
 intro l h;have key:∀(f g:α->dh),(∀x∈l,∀y∈l,f x=f y->g x=g y)->(gm (l.map g)).length<=(gm (l.map f)).length:=by
  intro f g h;have hw:∀z∈gm (l.map f),∃x∈l,f x=z:=λz aL=>gO.1 ((kl _ _).1 aL);have anG:∀kS:List dh,(∀z∈kS,∃x∈l,f x=z)->∃ws:List dh,ws.length=kS.length/\∀x∈l,f x∈kS->g x∈ws:=by
   intro kS
   induction kS with
   |nil=>exactλ_=>⟨[],rfl,λx _ h=>by cases h⟩
   |cons z kS ch=>
    intro aL;obtain⟨ws,h1,ι⟩:=ch λy ah=>aL y (hW _ ah);obtain⟨cc,rQ,hl⟩:=aL z (by simp);refine⟨g cc::ws,by simp[h1],λx I hm=>?_⟩;rcases fA.1 hm with e|hm
    ·rw[h x I cc rQ (by rw[e,hl])];exact n2
    ·exact hW _ (ι x I hm)
  obtain⟨ws,h1,ι⟩:=anG _ hw;rw[<-h1];refine rW _ _ (xl _) λz aL=>?_;obtain⟨x,I,rfl⟩:=gO.1 ((kl _ _).1 aL);exact ι x I ((kl _ _).2 (gO.2 ⟨x,I,rfl⟩))
 exact Nat.le_antisymm (key g f λx I y ah e=>(h x I y ah).2 e) (key f g λx I y ah e=>(h x I y ah).1 e)
theorem ln.live{m:aR}{A:eL}{f:Nat->dh}(h:ln m A f):xf A.E=iF m.R:=by unfold xf iF;rw[h.R,Wu];refine aqb _ _ _ λx I y ah=>⟨λe=>by have:=gP Prod.fst e;dsimp only at this;rw[this],λe=>by rw[h.inj x I y ah e]⟩
theorem ln.cap{m:aR}{A:eL}{f:Nat->dh}(h:ln m A f):A.cap=m.cap:=by unfold eL.cap aR.cap;rw[h.s,h.k]
theorem ln.get{m:aR}{A:eL}{f:Nat->dh}(h:ln m A f)(i:Nat):m.R[i]?=(A.E[i]?).map λe=>(e.1,e.2.1,e.2.2.map (Option.map λx=>f x.1)):=by rw[h.R];unfold xh;rw[List.getElem?_map]
theorem ln.nf{m:aR}{A:eL}{f:Nat->dh}(h:ln m A f)(v:Int):fS m.R v=(ja A.E v).map λe=>(e.1,e.2.1,e.2.2.map (Option.map λx=>f x.1)):=by
 unfold fS ja;split
 ·rw[h.get];cases A.E[v.toNat]?with
  |none=>rfl
  |some e=>
   rw[iT,La,La];dsimp only;split<;>rfl
 ·rfl
theorem ln.spare{m:aR}{A:eL}{f:Nat->dh}(h:ln m A f):lf m.R=qh A.E:=by unfold lf qh;rw[h.R];unfold xh;rw[List.findIdx?_map];rfl
theorem abD{E:List jJ}{i:Nat}{e:jJ}{x:l5}(h:x∈nn (E.set i e)):x∈nn E\/some x∈e.2.2:=by
 obtain⟨a,aQ,I⟩:=Ey.1 h;rcases pk aQ with aQ|rfl
 ·exact .inl (Ey.2 ⟨a,aQ,I⟩)
 ·exact .inr I
theorem ln.set{m m':aR}{A:eL}{f:Nat->dh}(h:ln m A f)(ω:m'.s=m.s)(hk:m'.k=m.k)(af:m'.d=m.d)(i:Nat)(e:jJ)(mN:∀x,some x∈e.2.2->x∈nn A.E)(ij:m'.R=m.R.set i (e.1,e.2.1,e.2.2.map (Option.map λx=>f x.1))):ln m' {A with E:=A.E.set i e} f:=by
 have jb:∀x∈nn (A.E.set i e),x∈nn A.E:=λx I=>by
  rcases abD I with h1|h1
  ·exact h1
  ·exact mN x h1
 refine⟨h.s.trans ω.symm,h.k.trans hk.symm,?_,λx I y ah=>h.inj x (jb x I) y (jb y ah),λx I=>?_,λx I=>h.lt x (jb x I)⟩
 ·rw[ij,h.R];unfold xh;dsimp only;rw[qX]
 ·rw[hk,af];exact h.sec x (jb x I)
theorem VY{E:List jJ}{v:Nat}{e:jJ}(h:E[v]?=some e)(b:Nat)(q:Option l5):yY E v b q=E.set v (e.1,e.2.1,e.2.2.set b q):=by unfold yY;rw[h]
theorem Jr{E:List jJ}{v:Int}{e:jJ}(h:ja E v=some e):0<=v/\v<8/\E[v.toNat]?=some e/\e.1≠0:=by
 unfold ja at h;split at h
 ·rename_i aJ;cases υ:E[v.toNat]?with
  |none=>rw[υ]at h;simp at h
  |some x=>
   rw[υ,La]at h;split at h
   ·cases h;rename_i hk;exact⟨aJ.1,aJ.2,rfl,b7 hk⟩
   ·cases h
 ·cases h
theorem ln.same{m m':aR}{A:eL}{f:Nat->dh}(h:ln m A f)(ψ:nH m)(ω:m'.s=m.s)(hk:m'.k=m.k)(af:iA m.d m'.d)(ij:m'.R=m.R):ln m' A f:=
 ⟨h.s.trans ω.symm,h.k.trans hk.symm,ij.trans h.R,h.inj,λx I=>by rw[hk,af.sec (by have:=ψ.gx;omega)];exact h.sec x I,h.lt⟩
theorem ln.clean{m m':aR}{A:eL}{f:Nat->dh}{g:dh->dh}(h:ln m A f)(c:WZ m m' g):ln m' A (g∘f):=by
 have hu:∀x∈nn A.E,f x.1∈used m.R:=λx I=>by rw[h.R,Wu];exact gO.2 ⟨x,I,rfl⟩
 refine⟨h.s.trans c.s.symm,h.k.trans c.k.symm,?_,λx I y ah e=>h.inj x I y ah (c.inj _ (hu x I) _ (hu y ah) e),λx I=>?_,h.lt⟩
 ·rw[c.R,h.R];unfold kb xh;rw[Cf];congr 1
  funext e
  simp[Option.map_map,Function.comp_def]
 ·rw[c.k];exact(c.sec _ (hu x I)).trans (h.sec x I)
theorem asG{m:aR}(h:Inv m)(aC:m.seq+1<=1073741824){A:eL}{f:Nat->dh}(ω:ln m A f){a:Ask}(aQ:∀x∈a.bs,0<=x/\x<256):
  ((eS m a).2.e=12/\bw.room m.st 2=false/\(iF m.R:Int)+1<=m.cap)\/((eS m a).2.e≠12/\(eS m a).2=(lI A a).2/\∃h4,ln (eS m a).1 (lI A a).1 h4):=by
 have bad:∀e:Int,e≠12->((fail m e).2.e=12/\bw.room m.st 2=false/\(iF m.R:Int)+1<=m.cap)\/((fail m e).2.e≠12/\(fail m e).2=(mJ A e).2/\∃h4,ln (fail m e).1 (mJ A e).1 h4):=λe he=>.inr ⟨he,rfl,f,ω⟩;have ok:∀(m':aR)(nE:eL)(r:gS)(h4:Nat->dh),r.e=0->ln m' nE h4->(((m',r):aR×gS).2.e=12/\bw.room m.st 2=false/\(iF m.R:Int)+1<=m.cap)\/(((m',r):aR×gS).2.e≠12/\((m',r):aR×gS).2=((nE,r):eL×gS).2/\∃h4,ln ((m',r):aR×gS).1 ((nE,r):eL×gS).1 h4):=λm' nE r h4 υ ep=>.inr ⟨by dsimp only;omega,rfl,h4,ep⟩;unfold eS lI;by_cases h1:a.k=1
 ·rw[aS h1,aS h1];by_cases aL:1<=a.s/\a.s<=32
  ·rw[aS aL,aS aL,ω.spare];cases k0:qh A.E with
   |none=>exact bad 7 (by decide)
   |some i=>
    refine ok _ _ _ f rfl (ω.set (m':=oK {m with R:=m.R.set i (1,a.s,List.replicate a.s.toNat none)} ⟨1,i,0,a.s,0,0⟩) rfl rfl rfl i (1,a.s,List.replicate a.s.toNat none) (λx I=>by have:=uN I;cases this) ?_);show m.R.set i _=m.R.set i _;rw[KZ];rfl
  ·rw[aM aL,aM aL];exact bad 5 (by decide)
 rw[aM h1,aM h1];by_cases ι:a.k=2
 ·rw[aS ι,aS ι,ω.nf];cases he:ja A.E a.v with
  |none=>exact bad 4 (by decide)
  |some e=>exact ok _ _ _ f rfl (ω.set (m':=oK {m with R:=m.R.set a.v.toNat (0,0,[])} ⟨2,a.v,0,0,0,0⟩) rfl rfl rfl a.v.toNat (0,0,[]) (λx I=>by cases I) rfl)
 rw[aM ι,aM ι];by_cases aG:a.k=3
 ·rw[aS aG,aS aG,ω.nf];cases he:ja A.E a.v with
  |none=>exact bad 4 (by decide)
  |some e=>
   obtain⟨v0,bj,aJ,hk⟩:=Jr he;rw[iT];dsimp only;rw[ω.spare];cases k0:qh A.E with
   |none=>exact bad 7 (by decide)
   |some i=>exact ok _ _ _ f rfl (ω.set (m':=oK {m with R:=m.R.set i (2,e.2.1,e.2.2.map (Option.map λx=>f x.1))} ⟨3,a.v,i,0,0,0⟩) rfl rfl rfl i (2,e.2.1,e.2.2) (λx I=>Ey.2 ⟨e,eZ aJ,I⟩) rfl)
 rw[aM aG,aM aG];by_cases cq:a.k=4
 ·rw[aS cq,aS cq,ω.nf];cases he:ja A.E a.v with
  |none=>exact bad 4 (by decide)
  |some e=>
   obtain⟨v0,bj,aJ,hk⟩:=Jr he;rw[iT];dsimp only;by_cases ψ:a.b<0\/e.2.1<=a.b
   ·rw[aS ψ,aS ψ];exact bad 5 (by decide)
   ·rw[aM ψ,aM ψ,List.getElem?_map];cases aC:e.2.2[a.b.toNat]?with
    |none=>exact ok _ _ _ f rfl ω
    |some q=>
     cases q with
     |none=>exact ok _ _ _ f rfl ω
     |some x=>
      have lO:=ω.sec x (Ey.2 ⟨e,eZ aJ,eZ aC⟩);refine .inr ⟨(by show(0:Int)≠12;decide),?_,f,ω⟩;show({hd with bs:=hf m.k m.d (f x.1)}:gS)={hd with bs:=x.2};rw[lO]
 rw[aM cq,aM cq];by_cases db:a.k=5
 ·rw[aS db,aS db];unfold IL;rw[ω.nf];cases he:ja A.E a.v with
  |none=>exact bad 4 (by decide)
  |some e=>
   obtain⟨v0,bj,aJ,hk⟩:=Jr he;have anf:fS m.R a.v=some (e.1,e.2.1,e.2.2.map (Option.map λx=>f x.1)):=by rw[ω.nf,he];rfl
   rw[iT];dsimp only;by_cases g1:e.1=2
   ·rw[aS g1,aS g1];exact bad 8 (by decide)
   rw[aM g1,aM g1];by_cases g2:a.b<0\/e.2.1<=a.b
   ·rw[aS g2,aS g2];exact bad 5 (by decide)
   rw[aM g2,aM g2];by_cases g3:a.bs.length≠64
   ·rw[aS g3,aS g3];exact bad 6 (by decide)
   rw[aM g3,aM g3,ω.live,ω.cap];by_cases g4:m.cap<(iF m.R:Int)+1
   ·rw[aS g4,aS g4];exact bad 9 (by decide)
   rw[aM g4,aM g4];by_cases g5:bw.room m.st 2=false
   ·rw[aS g5];exact .inl ⟨rfl,g5,by omega⟩
   rw[aM g5];have lO:a6.kE a.bs:=⟨by omega,aQ⟩;obtain⟨dC,o⟩:=ahn h anf g1 (b:=a.b) (by dsimp only;omega) lO (by omega) (by simpa using g5);generalize hp:(fP m a.bs 2).1=m1 at dC o⊢;generalize ah:(fP m a.bs 2).2=x at dC o⊢;obtain⟨f1,f2,f3⟩:=(lu h.gx).1 h.fit;have hu:∀y∈nn A.E,f y.1∈used m.R:=λy ah=>by rw[ω.R,Wu];exact gO.2 ⟨y,ah,rfl⟩
   have ka:=VY aJ a.b.toNat (some (A.n,a.bs));have jb:∀y∈nn (yY A.E a.v.toNat a.b.toNat (some (A.n,a.bs))),y∈nn A.E\/y=(A.n,a.bs):=λy ah=>by
    rw[ka]at ah;rcases abD ah with h1|h1
    ·exact .inl h1
    ·rcases pk h1 with ι|ι
     ·exact .inl (Ey.2 ⟨e,eZ aJ,ι⟩)
     ·cases ι;exact .inr rfl
   let h4:Nat->dh:=λi=>if i=A.n then x else f i
   have fold:∀y∈nn A.E,h4 y.1=f y.1:=λy ah=>aM (λe=>by have:=ω.lt y ah;omega);have Nj:h4 A.n=x:=aS rfl;refine ok _ _ _ h4 rfl ⟨ω.s.trans dC.s.symm,ω.k.trans dC.k.symm,?_,λy ah z aL bE=>?_,λy ah=>?_,λy ah=>?_⟩
   ·show jv m.R a.v.toNat a.b.toNat (some x)=xh h4 (yY A.E a.v.toNat a.b.toNat (some (A.n,a.bs)));have TX:m.R[a.v.toNat]?=some (e.1,e.2.1,e.2.2.map (Option.map λx=>f x.1)):=by rw[ω.get,aJ];rfl
    have same:∀cO∈A.E,cO.2.2.map (Option.map λx=>h4 x.1)=cO.2.2.map (Option.map λx=>f x.1):=λcO dG=>by
     apply Cg;intro q aC;cases q with
     |none=>rfl
     |some y=>rw[iT,iT,fold y (Ey.2 ⟨cO,dG,aC⟩)]
    have amg:m.R=xh h4 A.E:=by rw[ω.R];unfold xh;apply Cg;intro cO dG;rw[same cO dG]
    rw[Pu TX,ka,amg];unfold xh;rw[qX];dsimp only;rw[qX,iT,Nj,same e (eZ aJ)]
   ·rcases jb y ah with ah|rfl<;>rcases jb z aL with aL|rfl
    ·rw[fold y ah,fold z aL]at bE;exact ω.inj y ah z aL bE
    ·rw[fold y ah]at bE;dsimp only at bE;rw[Nj]at bE;exact absurd (bE▸hu y ah) dC.new
    ·rw[fold z aL]at bE;dsimp only at bE;rw[Nj]at bE;exact absurd (bE▸hu z aL) dC.new
    ·rfl
   ·show hf m1.k m1.d (h4 y.1)=y.2;rw[dC.k,dC.d];rcases jb y ah with ah|rfl
    ·rw[fold y ah,VV h.gx h.me dC.lt _ (f2 _ (hu y ah)),aM λe:f y.1=x=>dC.new (by rw[<-e];exact hu y ah)];exact ω.sec y ah
    ·dsimp only;rw[Nj,VV h.gx h.me dC.lt _ dC.lt,aS rfl]
   ·show y.1<A.n+1;rcases jb y ah with ah|rfl
    ·have:=ω.lt y ah;omega
    ·exact H8 _
 rw[aM db,aM db];by_cases hy:a.k=6
 ·rw[aS hy,aS hy,ω.nf];cases he:ja A.E a.v with
  |none=>exact bad 4 (by decide)
  |some e=>
   obtain⟨v0,bj,aJ,hk⟩:=Jr he;rw[iT];dsimp only;by_cases g1:e.1=2
   ·rw[aS g1,aS g1];exact bad 8 (by decide)
   rw[aM g1,aM g1];by_cases g2:a.b<0\/e.2.1<=a.b
   ·rw[aS g2,aS g2];exact bad 5 (by decide)
   rw[aM g2,aM g2];have TX:m.R[a.v.toNat]?=some (e.1,e.2.1,e.2.2.map (Option.map λx=>f x.1)):=by rw[ω.get,aJ];rfl
   rw[VY aJ];refine ok _ _ _ f rfl (ω.set (m':=oK {m with R:=jv m.R a.v.toNat a.b.toNat none} ⟨5,a.v,0,a.b,0,0⟩) rfl rfl rfl a.v.toNat (e.1,e.2.1,e.2.2.set a.b.toNat none) (λx I=>?_) ?_)
   ·rcases pk I with I|I
    ·exact Ey.2 ⟨e,eZ aJ,I⟩
    ·cases I
   ·show jv m.R _ _ _=_;rw[Pu TX,qX];rfl
 rw[aM hy,aM hy];by_cases ih:a.k=7
 ·rw[aS ih,aS ih];obtain⟨s1,s2,lU,q1,adY,axZ⟩:=aeD h aC;exact ok _ _ _ f rfl (ω.same h.base q1 adY lU s2)
 rw[aM ih,aM ih];by_cases dr:a.k=8
 ·rw[aS dr,aS dr,ω.live,ω.cap];exact ok _ _ _ f rfl ω
 rw[aM dr,aM dr,ω.nf];cases he:ja A.E a.v with
 |none=>exact bad 4 (by decide)
 |some e=>exact ok _ _ _ f rfl ω
def uj(m:aR)(a:Ask):aR×gS:=if(eS (tick m) a).2.e=12 then eS (tick (pN (tick (tick m)))) a else eS (tick m) a
structure Ok(m:aR)(A:eL)(n:Nat):Prop where
 inv:Inv m
 fT:xV m n
 Lo:∃f,ln m A f
theorem Ok.more{m:aR}{A:eL}{n eX:Nat}(h:Ok m A n)(ax:n<=eX):Ok m A eX:=⟨h.inv,h.fT.more ax,h.Lo⟩
theorem Ok.tick{m:aR}{A:eL}{n:Nat}(h:Ok m A n):Ok (tick m) A (n+1):=by obtain⟨f,bg⟩:=h.Lo;exact⟨atw h.inv,atv h.fT,f,bg.same h.inv.base rfl rfl (iA.refl h.inv.dev) rfl⟩
theorem Ok.clean{m:aR}{A:eL}{n:Nat}(h:Ok m A n)(ax:n<=900000):Ok (pN m) A (n+1):=by obtain⟨f,bg⟩:=h.Lo;have ω:=h.fT.seq;have π:=h.fT.clock;obtain⟨o,⟨g,c⟩,_⟩:=YW h.inv (by omega) π.1;exact⟨o,⟨by rw[c.seq];omega,by rw[c.clock];omega,by rw[c.dl];exact en _,by rw[c.loose];exact en _⟩,_,bg.clean c⟩
theorem Ok.check{m:aR}{A:eL}{n:Nat}(h:Ok m A n)(ax:n<=900000):Ok (qI m) A (n+1):=by obtain⟨f,bg⟩:=h.Lo;have ω:=h.fT.seq;have π:=h.fT.clock;obtain⟨o,c⟩:=Rn h.inv (by omega);exact⟨o,⟨by rw[c.seq];omega,by rw[c.clock];omega,by rw[c.dl];exact en _,by rw[c.loose];exact en _⟩,_,bg.same h.inv.base c.s c.k c.low c.R⟩
theorem Ok.do{m:aR}{A:eL}{n:Nat}(h:Ok m A n)(ax:n<=900000){a:Ask}(aQ:∀x∈a.bs,0<=x/\x<256):
  ((eS m a).2.e=12/\(eS m a).1=m/\bw.room m.st 2=false/\(iF m.R:Int)+1<=m.cap)\/((eS m a).2.e≠12/\(eS m a).2=(lI A a).2/\Ok (eS m a).1 (lI A a).1 (n+1)):=by
 obtain⟨f,bg⟩:=h.Lo;have ω:=h.fT.seq;have ou:=akK h.inv (by omega) aQ;rcases asG h.inv (by omega) bg aQ with⟨h1,ι,aG⟩|⟨h1,ι,aG⟩
 ·exact .inl ⟨h1,ou.bad (by rw[h1];decide),ι,aG⟩
 ·exact .inr ⟨h1,ι,ou.inv,ou.fT _ h.fT,aG⟩
theorem Ok.full{m:aR}{A:eL}{n:Nat}(h:Ok m A n)(ax:n<=800000){a:Ask}(aQ:∀x∈a.bs,0<=x/\x<256):
  (uj m a).2.e≠12/\(uj m a).2=(lI A a).2/\Ok (uj m a).1 (lI A a).1 (n+5):=by
 unfold uj;rcases h.tick.do (by omega) aQ with⟨h1,ι,aG,cq⟩|⟨h1,ι,aG⟩
 ·rw[aS h1];have Hl:=h.tick.tick;have ω:=Hl.fT.seq;have π:=Hl.fT.clock;have fV:=Hl.clean (by omega);rcases fV.tick.do (by omega) aQ with⟨a1,bP,cd,cz⟩|⟨a1,bP,cd⟩
  ·obtain⟨o,⟨g,c⟩,υ⟩:=YW Hl.inv (by omega) π.1
   have:=υ aG cq
   rw[show(aR.tick (pN (aR.tick (aR.tick m)))).st=(pN (aR.tick (aR.tick m))).st from rfl,this]at cd;cases cd
  ·exact⟨a1,bP,cd.more (by omega)⟩
 ·rw[aM h1];exact⟨h1,ι,aG.more (by omega)⟩
theorem VJ{α:Type}(n i:Nat)(a:α):(List.replicate n a).set i a=List.replicate n a:=by
 apply qb;intro j;rw[List.getElem?_set];by_cases h:i=j
 ·subst h;rw[aS rfl,List.getElem?_replicate,se]
 ·rw[aM h]
def sy(n:Nat):List an:=List.replicate n a6.ia
theorem Vs(n:Nat):∀(j:Nat)(d:a6.c3)(i:Int),d.now=sy n->(mu d i (List.replicate j a6.ia)).now=sy n
 |0,d,i,h=>h
 |j+1,d,i,h=>by rw[E9];exact Vs n j _ _ (by show d.now.set i.toNat a6.ia=_;rw[h];exact VJ _ _ _)
def DB(n:Nat):a6.c3:=kK (a6.da (a6.da (a6.fresh n) 0 a6.ia) 12 a6.ia)
def DC(n:Nat):a6.c3:=mu (DB n) 24 (List.replicate 16 a6.ia)
def sS(n:Nat)(s k:Int):a6.c3:=uR (DC n) s k 1 (cp [])
theorem ZK(n:Nat):(DB n).now=sy n:=by show((sy n).set _ a6.ia).set _ a6.ia=sy n;rw[sy,VJ,VJ]
theorem alJ(n:Nat):(DC n).now=sy n:=Vs n 16 _ _ (ZK n)
section
variable{s k:Int}(dS:6<=s/\s<=24/\2<=k/\k<=16)
include dS
theorem GU:lG s k (cp []):=by
 refine(lu dS).2 ⟨by decide,λx I=>?_,?_⟩
 ·have:used (cp [])=[]:=by decide
  rw[this]at I;cases I
 ·have:iF (cp [])=0:=by decide
  rw[this]
  have:=sd (show(0:Int)<=s-4 by omega) (show(0:Int)<=k by omega) (by decide) (by omega)
  omega
omit dS in
theorem ZD:∀e∈cp [],lz e:=(fp.zero default).ok
omit dS in
theorem seq1:uI 1:=⟨by decide,by decide⟩
omit dS in
theorem aq1(k:Int):eQ k (cp [])=eQ 2 (cp []):=rfl
omit dS in
theorem api(s k:Int):∃pF mZ,ix s k 1 (eQ k (cp []))=[pF,mZ]:=by
 have h:(ix s k 1 (eQ k (cp []))).length=2:=by rw[JQ,aq1];rfl
 match ι:ix s k 1 (eQ k (cp []))with
 |[a,b]=>exact⟨a,b,rfl⟩
 |[]=>rw[ι]at h;simp at h
 |[a]=>rw[ι]at h;simp at h
 |a::b::c::l=>rw[ι]at h;simp at h
omit dS in
theorem awh:mh a6.ia=false:=by decide+kernel
omit dS in
theorem ajt:zx []=(cp [],0,0,0,11):=X4 λg=>by have:=g.ay;simp at this
theorem ajj{d:a6.c3}{pF mZ:an}(cV:ix s k 1 (eQ k (cp []))=[pF,mZ])(g0:d.now[0]?=some a6.ia)(g12:d.now[12]?=some pF)(g13:d.now[13]?=some mZ):vm d 2=(cp [],s,k,1):=by
 have Au:vS d (12*0)=[]:=by rw[Vi (s:=a6.ia) (by simpa using g0),aM λdS=>by rw[awh]at dS;cases dS.1]
 obtain⟨g,aO,bE,gw,iZ⟩:=apj seq1 (GU dS) ZD rfl;have SP:=X5 g;rw[aO,bE,gw,iZ]at SP;rw[cV]at g bE gw iZ SP;have dt:mh pF=true:=g.wY;have ih:c9 pF 4 4=1:=iZ;have h1:c9 pF 10 1=1:=by have fU:c9 pF 10 1=(([pF,mZ].length:Nat):Int)-1:=g.fs;simpa using fU
 have KN:vS d (12*1)=[pF,mZ]:=by rw[Vi (s:=pF) (by simpa using g12),aS ⟨dt,by rw[ih];decide⟩,h1];have a:=drop_take (l:=d.now) (a:=12) (j:=0) (s:=pF) (by simpa using g12);have b:=drop_take (l:=d.now) (a:=12) (j:=1) (s:=mZ) (by simpa using g13);have e:(1+(1:Int).toNat)=1+1:=rfl;rw[e,b,a];rfl
 show AU (AU Ra (zx (vS d (12*0)))) (zx (vS d (12*1)))=_;rw[Au,KN,ajt,SP];rfl
omit dS in
theorem alI{n:Nat}{pF mZ:an}(cV:ix s k 1 (eQ k (cp []))=[pF,mZ]):(sS n s k).now=((sy n).set 13 mZ).set 12 pF:=by have af:=alJ n;unfold sS;generalize DC n=d at af⊢;unfold uR;rw[cV];show(d.now.set 13 mZ).set 12 pF=_;rw[af]
theorem ZL{n:Nat}(ax:40<=n):vm (sS n s k) 2=(cp [],s,k,1)/\pg 1 (sS n s k).now 16 0=([],0)/\(sS n s k).now.length=n:=by
 obtain⟨pF,mZ,cV⟩:=api s k;have BI:=alI (n:=n) cV;refine⟨ajj dS cV ?_ ?_ ?_,?_,?_⟩
 ·rw[BI,List.getElem?_set,aM (by omega),List.getElem?_set,aM (by omega),sy,List.getElem?_replicate,aS (by omega)]
 ·rw[BI,List.getElem?_set,aS rfl,aS (by rw[im,sy,se];omega)]
 ·rw[BI,List.getElem?_set,aM (by omega),List.getElem?_set,aS rfl,aS (by rw[sy,se];omega)]
 ·have rH:(sS n s k).now.getD (24+0) []=a6.ia:=by
   rw[List.getD_eq_getElem?_getD,BI,List.getElem?_set,aM (by omega),List.getElem?_set,aM (by omega),sy,List.getElem?_replicate,aS (by omega)];rfl
  unfold pg;rw[rH]
  have:qe 1 ((0:Nat):Int) a6.ia=none:=by
   have h:(qe 1 0 a6.ia).isNone=true:=by decide+kernel
   exact Option.isNone_iff_eq_none.1 h
  rw[this]
 ·rw[BI,im,im,sy,se]
end
def wN(s:Int):an:=kt s.toNat (lays (used (cp []))) []
def q2(s k:Int):bw.hi:=(bw.begun s k (wN s)).getD ⟨0,0,[],0,0⟩
def xk(s k:Int):aR:={s:=s,k:=k,d:=sS (40+s*k).toNat s k,R:=cp [],st:=q2 s k,seq:=1,used:=16,dl:=[],lj:=false,clock:=0,stamps:=List.replicate s.toNat 0}
def xj(s k:Int):eL:=⟨s,k,List.replicate 8 (0,0,[]),0⟩
def pD(s k:Int):Prop:=6<=s/\s<=14/\2<=k/\k<=6
theorem ZV{P:Int->Int->Prop}(h:∀a:_root_.Fin 9,∀b:_root_.Fin 5,P (6+a.val) (2+b.val)){s k:Int}(g:pD s k):P s k:=by
 have:=h ⟨(s-6).toNat,by have:=g.1;have:=g.2.1;omega⟩ ⟨(k-2).toNat,by have:=g.2.2;omega⟩
 have aO:(6:Int)+((s-6).toNat:Nat)=s:=by have:=g.1;omega
 have bE:(2:Int)+((k-2).toNat:Nat)=k:=by have:=g.2.2.1;omega
 dsimp only at this;rw[aO,bE]at this;exact this
theorem as2:∀a:_root_.Fin 9,∀b:_root_.Fin 5,(λ(s k:Int)=>(bw.begun s k (wN s)).isSome=true/\(q2 s k).gH=s/\(q2 s k).blocks=k/\2<=(q2 s k).free.length) (6+a.val) (2+b.val):=by decide+kernel
theorem aes{s k:Int}(g:pD s k):bw.begun s k (wN s)=some (q2 s k)/\(q2 s k).gH=s/\(q2 s k).blocks=k/\2<=(q2 s k).free.length:=by obtain⟨h1,ι⟩:=ZV (P:=λs k=>(bw.begun s k (wN s)).isSome=true/\(q2 s k).gH=s/\(q2 s k).blocks=k/\2<=(q2 s k).free.length) as2 g;obtain⟨x,I⟩:=H0.1 h1;refine⟨?_,ι⟩;unfold q2;rw[I];rfl
theorem pD.wide{s k:Int}(g:pD s k):6<=s/\s<=24/\2<=k/\k<=16:=by unfold pD at g;omega
theorem pD.prod{s k:Int}(g:pD s k):12<=s*k/\s*k<=84:=by unfold pD at g;have h1:6*2<=s*k:=sd (by omega) (by omega) (by omega) (by omega);have ι:s*k<=14*6:=sd (by omega) (by omega) (by omega) (by omega);omega
theorem ast(d:a6.c3)(s k q:Int)(R:bR):(uR d s k q R).off=(mu d (pJ q+1) (ix s k q (eQ k R)).tail).off/\(uR d s k q R).after=(mu d (pJ q+1) (ix s k q (eQ k R)).tail).after:=⟨rfl,rfl⟩
theorem Vq:∀(l:List an)(d:a6.c3)(i:Int),(mu d i l).off=d.off/\(mu d i l).after=d.after/\(mu d i l).loose.length=d.loose.length+l.length
 |[],d,i=>⟨rfl,rfl,rfl⟩
 |x::r,d,i=>by obtain⟨h1,ι,aG⟩:=Vq r (a6.da d i x) (i+1);refine⟨h1,ι,?_⟩;show(mu (a6.da d i x) (i+1) r).loose.length=_;rw[aG];show(d.loose++[(i,x)]).length+_=_;rw[fe,k5,k5,Fa];omega
theorem alK(n:Nat):(DC n).off=false/\(DC n).after=-1:=by obtain⟨h1,ι,_⟩:=Vq (List.replicate 16 a6.ia) (DB n) 24;exact⟨h1,ι⟩
theorem ZM(n:Nat)(s k:Int):(sS n s k).off=false/\(sS n s k).after=-1:=by obtain⟨h1,ι⟩:=ast (DC n) s k 1 (cp []);obtain⟨a1,bP,_⟩:=Vq (ix s k 1 (eQ k (cp []))).tail (DC n) (pJ 1+1);obtain⟨aO,bE⟩:=alK n;exact⟨(h1.trans a1).trans aO,(ι.trans bP).trans bE⟩
theorem ap0{s k:Int}(g:pD s k)(bJ:a6.Good (sS (40+s*k).toNat s k))(bV:bw.Good (q2 s k)):Ok (xk s k) (xj s k) 2:=by
 have hw:=g.wide;have hp:=g.prod;obtain⟨f1,f2,f3⟩:=ZL hw (n:=(40+s*k).toNat) (by omega);obtain⟨t1,t2,t3,t4⟩:=aes g;have hu:used (cp [])=[]:=by decide
 refine⟨⟨hw,rfl,ZD,GU hw,bV,t2,t3,t4,?_,?_,bJ,(ZM _ s k).1,(ZM _ s k).2,?_,?_,?_,?_,by show 16<=16;omega,by show(1:Int)<=1;omega⟩,⟨?_,?_,?_,?_⟩,?_⟩
 ·intro x I;have I:x∈used (cp []):=I;rw[hu]at I;cases I
 ·intro x I;have I:x∈used (cp []):=I;rw[hu]at I;cases I
 ·show((sS (40+s*k).toNat s k).now.length:Int)=40+s*k;rw[f3];omega
 ·show(List.replicate s.toNat (0:Int)).length=s.toNat;rw[se]
 ·intro t aP
  have:=uN (show t∈List.replicate s.toNat (0:Int)from aP)
  show 0<=t/\t<=0;omega
 ·intro d af;cases af
 ·show(1:Int)<=_;omega
 ·show(0:Int)<=0/\(0:Int)<=_;omega
 ·exact en _
 ·exact en _
 ·refine⟨λ_=>(0,0),rfl,rfl,rfl,?_,?_,?_⟩
  all_goals(intro x I;have I:x∈nn (List.replicate 8 ((0,0,[]):jJ)):=I;exact absurd I (by rw[show nn (List.replicate 8 ((0,0,[]):jJ))=[]by decide];exact n1))
end Go.Proofs.YtcpdfhkhaekekaaGreat.G.aR
namespace Go.Proofs.YtcpdfhkhaekekaaGreat.G.eb
open Go.bO Go.RowKit cL eh eW c5 aR
def hv(w:World)(T:List Nat)(i:Nat):Prop:=∃e∈T,Typed w e i
theorem hv.off{w:World}{T:List Nat}{i:Nat}(h:hv w T i){f:Nat}(k:Typed w f i)(ax:f∉T):False:=by obtain⟨e,he,aP⟩:=h;exact aP.ne k (λbE=>ax (bE▸he)) rfl
theorem hv.KH{w:World}{T U:List Nat}{i:Nat}(h:hv w T i)(k:hv w U i)(ax:(T.all λe=>!U.contains e)=true):False:=by
 obtain⟨e,he,aP⟩:=h;refine k.off aP λhm=>?_
 have:=Cb.1 ax e he
 rw[List.contains_iff_mem.2 hm]at this;cases this
abbrev XT:List Nat:=[q5,we]
abbrev XS:List Nat:=[P1,P2,P3]
abbrev ai3:List Nat:=[AT]
abbrev XU:List Nat:=[tB,cj]
abbrev Gx:List Nat:=[tC,u0,xI]
abbrev ai2:List Nat:=[fk]
abbrev cF:List Nat:=[cj]
abbrev A8:List Nat:=[q6]
abbrev o5:List Nat:=[q6,q5,we,P1,P2,P3,AT,tB,cj,fk]
theorem hv.mono{w:World}{T U:List Nat}{i:Nat}(h:hv w T i)(ω:∀e∈T,e∈U):hv w U i:=by obtain⟨e,he,aP⟩:=h;exact⟨e,ω e he,aP⟩
theorem F7{w:World}{i:Nat}:sB w i↔hv w Gx i:=by
 unfold sB hv;constructor
 ·rintro(h|h|h)
  ·exact⟨_,by simp,h⟩
  ·exact⟨_,by simp,h⟩
  ·exact⟨_,by simp,h⟩
 ·rintro⟨e,he,h⟩;simp only[fA,n1,oS]at he;rcases he with rfl|rfl|rfl
  ·exact .inl h
  ·exact .inr (.inl h)
  ·exact .inr (.inr h)
section off
variable{w w':World}{S:bf}{T:List Nat}
theorem gU(k:Kp w w' S)(ep:∀i,S i->hv w T i){B:Nat}{e:TypeId}{sz:Nat}{p:J}{n c:Nat}{xs:aU}(ε:μ w B e sz p n c xs)(ax:e∉T):μ w' B e sz p n c xs:=
 ε.aH k λx I o=>(ep _ o).off (ε.typed I).1 ax
theorem Jy{B bl:Nat}{xs:List (b9.cP×Int)}{al:Int}{D:bf}(h:b9.mD w B bl xs al D):∀i,D i->hv w XT i:=λi o=>by
 rcases(h.typed o).1 with t|t
 ·exact⟨_,by simp,t⟩
 ·exact⟨_,by simp,t⟩
theorem RR{B pd:Nat}{d:a6.c3}{D:bf}(h:a6.gV w B pd d D):∀i,D i->hv w XS i:=λi o=>by
 rcases(h.typed o).1 with t|t|t
 ·exact⟨_,by simp,t⟩
 ·exact⟨_,by simp,t⟩
 ·exact⟨_,by simp,t⟩
theorem Wa{B ps:Nat}{s:bw.hi}{D:bf}(h:bw.ll w B ps s D):∀i,D i->hv w XU i:=λi o=>by
 rcases(h.typed o).1 with t|t
 ·exact⟨_,by simp,t⟩
 ·exact⟨_,by simp,t⟩
theorem vv(k:Kp w w' S)(ep:∀i,S i->hv w T i){B bl:Nat}{xs:List (b9.cP×Int)}{al:Int}{D:bf}(h:b9.mD w B bl xs al D)(ax:(T.all λe=>!XT.contains e)=true)(dr:dk∉T):b9.mD w' B bl xs al D:=
 h.aH k (λi o ω=>(ep i ω).KH (Jy h i o) ax) λi ω aP=>(ep i ω).off aP dr
theorem vr(k:Kp w w' S)(ep:∀i,S i->hv w T i){B pd:Nat}{d:a6.c3}{D:bf}(h:a6.gV w B pd d D)(ax:(T.all λe=>!XS.contains e)=true):a6.gV w' B pd d D:=
 h.aH k λi o ω=>(ep i ω).KH (RR h i o) ax
theorem yZ(k:Kp w w' S)(ep:∀i,S i->hv w T i){B ps:Nat}{s:bw.hi}{D:bf}(h:bw.ll w B ps s D)(ax:(T.all λe=>!XU.contains e)=true):bw.ll w' B ps s D:=
 h.aH k λi o ω=>(ep i ω).KH (Wa h i o) ax
theorem v8(k:Kp w w' S)(ep:∀i,S i->hv w T i){B b1:Nat}{R:bR}(h:ki w B b1 R)(ax:AT∉T)(aP:(T.all λe=>!Gx.contains e)=true):ki w' B b1 R:=
 h.aH k (λω=>(ep _ ω).off h.typed.1 ax) λi ω e2=>(ep i ω).KH (F7.1 e2) aP
end off
structure vg where
 bl:Nat
 b1:Nat
 ps:Nat
 zI:J
 dc:Nat
 kp:Nat
 sc:Nat
def lS(pd:Nat)(q:vg)(m:aR):aU:=
 [.pointer (some ⟨q.bl,0,none⟩),.pointer (some ⟨pd,0,none⟩),.int .i64 m.s,.int .i64 m.k,.pointer (some ⟨q.b1,0,none⟩),.pointer (some ⟨q.ps,0,none⟩),.int .i64 m.seq,.int .i64 (m.used:Int),.slice q.zI m.dl.length q.dc,.bool m.lj,.int .i64 m.clock,.slice (some ⟨q.kp,0,none⟩) m.stamps.length q.sc,.bool false]
structure e9(w:World)(pp pd:Nat)(q:vg)(cZ dp c0:bf)(m:aR)(xs:List (b9.cP×Int))(al:Int):Prop where
 cell:μ w 0 q6 13 (some ⟨pp,0,none⟩) 1 1 (lS pd q m)
 gate:b9.mD w 0 q.bl xs al cZ
 dev:a6.gV w 0 pd m.d dp
 k8:ki w 0 q.b1 m.R
 st:bw.ll w 0 q.ps m.st c0
 dl:μ w 0 fk 5 q.zI m.dl.length q.dc (jC m.dl)
 stamps:μ w 0 cj 1 (some ⟨q.kp,0,none⟩) m.stamps.length q.sc (bw.cI m.stamps)
 apart:¬c0 q.kp
def jK(pp:Nat)(q:vg)(cZ dp c0:bf)(i:Nat):Prop:=i=pp\/cZ i\/dp i\/i=q.b1\/c0 i\/(∃x,q.zI=some x/\x.block=i)\/i=q.kp
def ho(w:World)(pp pd:Nat)(m:aR)(xs:List (b9.cP×Int))(al:Int)(D:bf):Prop:=∃q cZ dp c0,e9 w pp pd q cZ dp c0 m xs al/\∀i,D i↔jK pp q cZ dp c0 i
theorem e9.hL{w:World}{pp pd:Nat}{q:vg}{cZ dp c0:bf}{m:aR}{xs:List (b9.cP×Int)}{al:Int}(h:e9 w pp pd q cZ dp c0 m xs al){i:Nat}(o:jK pp q cZ dp c0 i):hv w o5 i/\i<w.heap.size:=by
 rcases o with rfl|o|o|rfl|o|⟨x,I,rfl⟩|rfl
 ·exact⟨⟨_,by simp,(h.cell.typed rfl).1⟩,(h.cell.ge rfl).2⟩
 ·exact⟨(Jy h.gate i o).mono (by decide),(h.gate.typed o).2.2⟩
 ·exact⟨(RR h.dev i o).mono (by decide),(h.dev.typed o).2.2⟩
 ·exact⟨⟨_,by simp,h.k8.typed.1⟩,h.k8.typed.2.2⟩
 ·exact⟨(Wa h.st i o).mono (by decide),(h.st.typed o).2.2⟩
 ·exact⟨⟨_,by simp,(h.dl.typed I).1⟩,(h.dl.ge I).2⟩
 ·exact⟨⟨_,by simp,(h.stamps.typed rfl).1⟩,(h.stamps.ge rfl).2⟩
theorem ho.hL{w:World}{pp pd:Nat}{m:aR}{xs:List (b9.cP×Int)}{al:Int}{D:bf}(h:ho w pp pd m xs al D){i:Nat}(o:D i):hv w o5 i/\i<w.heap.size:=by obtain⟨q,cZ,dp,c0,h,b4⟩:=h;exact h.hL ((b4 i).1 o)
theorem e9.aH{w w':World}{pp pd:Nat}{q:vg}{cZ dp c0:bf}{m:aR}{xs:List (b9.cP×Int)}{al:Int}(h:e9 w pp pd q cZ dp c0 m xs al){S:bf}(k:Kp w w' S)(ω:∀i,jK pp q cZ dp c0 i->¬S i)(aP:∀i,S i->¬sB w i)(dr:∀i,S i->¬Typed w dk i):e9 w' pp pd q cZ dp c0 m xs al:=
 ⟨h.cell.aH k λx I=>by cases I;exact ω _ (.inl rfl),h.gate.aH k (λi o=>ω i (.inr (.inl o))) dr,h.dev.aH k λi o=>ω i (.inr (.inr (.inl o))),h.k8.aH k (ω _ (.inr (.inr (.inr (.inl rfl))))) aP,h.st.aH k λi o=>ω i (.inr (.inr (.inr (.inr (.inl o))))),h.dl.aH k λx I=>ω _ (.inr (.inr (.inr (.inr (.inr (.inl ⟨x,I,rfl⟩)))))),h.stamps.aH k λx I=>by cases I;exact ω _ (.inr (.inr (.inr (.inr (.inr (.inr rfl)))))),h.apart⟩
theorem ho.aH{w w':World}{pp pd:Nat}{m:aR}{xs:List (b9.cP×Int)}{al:Int}{D:bf}(h:ho w pp pd m xs al D){S:bf}(k:Kp w w' S)(ω:∀i,D i->¬S i)(aP:∀i,S i->¬sB w i)(dr:∀i,S i->¬Typed w dk i):ho w' pp pd m xs al D:=by obtain⟨q,cZ,dp,c0,h,b4⟩:=h;exact⟨q,cZ,dp,c0,h.aH k (λi o=>ω i ((b4 i).2 o)) aP dr,b4⟩
theorem e9.ex{w w':World}{pp pd:Nat}{q:vg}{cZ dp c0:bf}{m:aR}{xs:List (b9.cP×Int)}{al:Int}(h:e9 w pp pd q cZ dp c0 m xs al)(x:η w w'):e9 w' pp pd q cZ dp c0 m xs al:=h.aH x (λ_ _ h=>h) (λ_ h=>h.elim) λ_ h=>h.elim
theorem ho.ex{w w':World}{pp pd:Nat}{m:aR}{xs:List (b9.cP×Int)}{al:Int}{D:bf}(h:ho w pp pd m xs al D)(x:η w w'):ho w' pp pd m xs al D:=h.aH x (λ_ _ h=>h) (λ_ h=>h.elim) λ_ h=>h.elim
structure dL(w0:World)(dV:bf)(w:World)(pp pd:Nat)(m:aR)(xs:List (b9.cP×Int))(al:Int)(D:bf):Prop where
 is:ho w pp pd m xs al D
 aH:Kp w0 w dV
 sub:∀i,D i->dV i\/w0.heap.size<=i
theorem dL.start{w:World}{pp pd:Nat}{m:aR}{xs:List (b9.cP×Int)}{al:Int}{D:bf}(h:ho w pp pd m xs al D):dL w D w pp pd m xs al D:=⟨h,Kp.refl _ _,λ_ h=>.inl h⟩
theorem dL.ex{w0 w w':World}{dV:bf}{pp pd:Nat}{m:aR}{xs:List (b9.cP×Int)}{al:Int}{D:bf}(h:dL w0 dV w pp pd m xs al D)(x:η w w'):dL w0 dV w' pp pd m xs al D:=⟨h.is.ex x,h.aH.fZ (x.aH _),h.sub⟩
theorem dL.trans{w0 w w':World}{dV D bb:bf}{pp pd:Nat}{m m':aR}{xs tK:List (b9.cP×Int)}{al o1:Int}(h:dL w0 dV w pp pd m xs al D)(k:dL w D w' pp pd m' tK o1 bb):dL w0 dV w' pp pd m' tK o1 bb:=
 ⟨k.is,Kp.trans h.aH k.aH (λ_ _ h=>h) (λi o af=>by rcases h.sub i af with h|h;exact h;omega),λi o=>by
  rcases k.sub i o with h1|h1
  ·exact h.sub i h1
  ·exact .inr (fY h.aH.size h1)⟩
theorem dL.aqa{w0 w:World}{dV D:bf}{pp pd:Nat}{m:aR}{xs:List (b9.cP×Int)}{al:Int}(h:dL w0 dV w pp pd m xs al D){b:Nat}(ψ:¬dV b)(aj:b<w0.heap.size):¬D b:=λaf=>by
 rcases h.sub b af with h1|h1
 ·exact ψ h1
 ·omega
theorem dL.dA{w0 w:World}{dV D:bf}{pp pd:Nat}{m m0:aR}{xs Mf:List (b9.cP×Int)}{al LN:Int}(h:dL w0 dV w pp pd m xs al D)(aD:ho w0 pp pd m0 Mf LN dV){B:Nat}{e:TypeId}{sz:Nat}{p:J}{n c:Nat}{vs:aU}(ε:μ w0 B e sz p n c vs)(ax:e∉o5):μ w B e sz p n c vs:=
 gU h.aH (λi o=>(aD.hL o).1) ε ax
open Tryz
section step
variable{w w':World}{pp pd:Nat}{q:vg}{cZ dp c0:bf}{m:aR}{xs:List (b9.cP×Int)}{al:Int}{D:bf}
theorem e9.il(b4:∀i,D i↔jK pp q cZ dp c0 i){oQ:vg}{rj pC tN:bf}{m':aR}{tK:List (b9.cP×Int)}{o1:Int}(h1:e9 w' pp pd oQ rj pC tN m' tK o1)(k:Kp w w' (jK pp q cZ dp c0))(sub:∀i,jK pp oQ rj pC tN i->jK pp q cZ dp c0 i\/w.heap.size<=i):
  dL w D w' pp pd m' tK o1 (jK pp oQ rj pC tN):=
 ⟨⟨oQ,rj,pC,tN,h1,λi=>mR⟩,k.mono λi _ h=>(b4 i).2 h,λi o=>(sub i o).imp_left (b4 i).2⟩
theorem e9.PA(h:e9 w pp pd q cZ dp c0 m xs al){d':a6.c3}(a:a6.Cz w 0 pd d' dp w'):∃pC,e9 w' pp pd q cZ pC c0 {m with d:=d'} xs al/\Kp w w' (jK pp q cZ dp c0)/\∀i,jK pp q cZ pC c0 i->jK pp q cZ dp c0 i\/w.heap.size<=i:=by
 obtain⟨pC,h1,_,k,ω⟩:=a;have c4:=RR h.dev;refine⟨pC,⟨gU k c4 h.cell (by decide),vv k c4 h.gate (by decide) (by decide),h1,v8 k c4 h.k8 (by decide) (by decide),yZ k c4 h.st (by decide),gU k c4 h.dl (by decide),gU k c4 h.stamps (by decide),h.apart⟩,k.mono λi _ o=>.inr (.inr (.inl o)),λi o=>?_⟩;rcases o with o|o|o|o
 ·exact .inl (.inl o)
 ·exact .inl (.inr (.inl o))
 ·exact(ω i o).imp_left λh=>.inr (.inr (.inl h))
 ·exact .inl (.inr (.inr (.inr o)))
theorem e9.aew(h:e9 w pp pd q cZ dp c0 m xs al){tK:List (b9.cP×Int)}{o1:Int}(a:b9.Qu w 0 q.bl tK o1 cZ w'):∃rj,e9 w' pp pd q rj dp c0 m tK o1/\Kp w w' (jK pp q cZ dp c0)/\∀i,jK pp q rj dp c0 i->jK pp q cZ dp c0 i\/w.heap.size<=i:=by
 obtain⟨rj,h1,k,ω⟩:=a;have c4:=Jy h.gate;refine⟨rj,⟨gU k c4 h.cell (by decide),h1,vr k c4 h.dev (by decide),v8 k c4 h.k8 (by decide) (by decide),yZ k c4 h.st (by decide),gU k c4 h.dl (by decide),gU k c4 h.stamps (by decide),h.apart⟩,k.mono λi _ o=>.inr (.inl o),λi o=>?_⟩;rcases o with o|o|o
 ·exact .inl (.inl o)
 ·exact(ω i o).imp_left λh=>.inr (.inl h)
 ·exact .inl (.inr (.inr o))
theorem e9.Lt(h:e9 w pp pd q cZ dp c0 m xs al){vh:bR}(a:nF w 0 q.b1 vh w'):e9 w' pp pd q cZ dp c0 {m with R:=vh} xs al/\Kp w w' (jK pp q cZ dp c0):=by obtain⟨h1,k⟩:=a;have c4:∀i,i=q.b1->hv w ai3 i:=λi o=>o▸⟨_,by simp,h.k8.typed.1⟩;exact⟨⟨gU k c4 h.cell (by decide),vv k c4 h.gate (by decide) (by decide),vr k c4 h.dev (by decide),h1,yZ k c4 h.st (by decide),gU k c4 h.dl (by decide),gU k c4 h.stamps (by decide),h.apart⟩,k.mono λi _ o=>.inr (.inr (.inr (.inl o)))⟩
theorem e9.aex(h:e9 w pp pd q cZ dp c0 m xs al){wa:bw.hi}(a:bw.Gq w 0 q.ps wa c0 w'):∃tN,e9 w' pp pd q cZ dp tN {m with st:=wa} xs al/\Kp w w' (jK pp q cZ dp c0)/\∀i,jK pp q cZ dp tN i->jK pp q cZ dp c0 i\/w.heap.size<=i:=by
 obtain⟨tN,h1,k,ω⟩:=a;have c4:=Wa h.st;refine⟨tN,⟨gU k c4 h.cell (by decide),vv k c4 h.gate (by decide) (by decide),vr k c4 h.dev (by decide),v8 k c4 h.k8 (by decide) (by decide),h1,gU k c4 h.dl (by decide),h.stamps.aH k λx I o=>by cases I;exact h.apart o,λo=>?_⟩,k.mono λi _ o=>.inr (.inr (.inr (.inr (.inl o)))),λi o=>?_⟩
 ·rcases ω _ o with h1|h1
  ·exact h.apart h1
  ·have:=(h.stamps.ge rfl).2
   dsimp only at this;omega
 rcases o with o|o|o|o|o|o
 ·exact .inl (.inl o)
 ·exact .inl (.inr (.inl o))
 ·exact .inl (.inr (.inr (.inl o)))
 ·exact .inl (.inr (.inr (.inr (.inl o))))
 ·exact(ω i o).imp_left λh=>.inr (.inr (.inr (.inr (.inl h))))
 ·exact .inl (.inr (.inr (.inr (.inr (.inr o)))))
theorem e9.aev(h:e9 w pp pd q cZ dp c0 m xs al){m':aR}(k:Kp w w' λi=>i=pp)(ε:μ w' 0 q6 13 (some ⟨pp,0,none⟩) 1 1 (lS pd q m'))(af:m'.d=m.d)(ij:m'.R=m.R)(bV:m'.st=m.st)(wX:m'.dl=m.dl)(k0:m'.stamps=m.stamps):e9 w' pp pd q cZ dp c0 m' xs al/\Kp w w' (jK pp q cZ dp c0):=by have c4:∀i,i=pp->hv w A8 i:=λi o=>o▸⟨_,by simp,(h.cell.typed rfl).1⟩;refine⟨⟨ε,vv k c4 h.gate (by decide) (by decide),by rw[af];exact vr k c4 h.dev (by decide),by rw[ij];exact v8 k c4 h.k8 (by decide) (by decide),by rw[bV];exact yZ k c4 h.st (by decide),by rw[wX];exact gU k c4 h.dl (by decide),by rw[k0];exact gU k c4 h.stamps (by decide),h.apart⟩,k.mono λi _ o=>.inl o⟩
theorem are(s:Int):(lS pd q m).set 6 (.int .i64 s)=lS pd q {m with seq:=s}:=rfl
theorem adl(u:Nat):(lS pd q m).set 7 (.int .i64 (u:Int))=lS pd q {m with used:=u}:=rfl
theorem arf(b:Bool):(lS pd q m).set 9 (.bool b)=lS pd q {m with lj:=b}:=rfl
theorem arc(c:Int):(lS pd q m).set 10 (.int .i64 c)=lS pd q {m with clock:=c}:=rfl
theorem ard(r:Nat):(lS pd q m).set 4 (.pointer (some ⟨r,0,none⟩))=lS pd {q with b1:=r} m:=rfl
theorem e9.put(h:e9 w pp pd q cZ dp c0 m xs al)(j:Nat)(φ:j<13){v:Value}(aJ:v.oneCell'=true){N:ao}(K:∀w',Kp w w' (λi=>i=pp)->μ w' 0 q6 13 (some ⟨pp,0,none⟩) 1 1 ((lS pd q m).set j v)->N w'):
  (w.cell? (⟨pp,j,none⟩:Addr)).isSome=true/\w.frozen? (⟨pp,j,none⟩:Addr)=false/\∀τ,τ=w.setCell (⟨pp,j,none⟩:Addr) v->N τ:=
 h.cell.da (j:=j) (by omega) aJ λτ k ε=>K τ k ε
theorem e9.as6(h:e9 w pp pd q cZ dp c0 m xs al){vh:bR}{r:Nat}(υ:ki w 0 r vh)(k:Kp w w' λi=>i=pp)(ε:μ w' 0 q6 13 (some ⟨pp,0,none⟩) 1 1 (lS pd {q with b1:=r} m)):e9 w' pp pd {q with b1:=r} cZ dp c0 {m with R:=vh} xs al/\Kp w w' (jK pp q cZ dp c0):=by have c4:∀i,i=pp->hv w A8 i:=λi o=>o▸⟨_,by simp,(h.cell.typed rfl).1⟩;exact⟨⟨ε,vv k c4 h.gate (by decide) (by decide),vr k c4 h.dev (by decide),v8 k c4 υ (by decide) (by decide),yZ k c4 h.st (by decide),gU k c4 h.dl (by decide),gU k c4 h.stamps (by decide),h.apart⟩,k.mono λi _ o=>.inl o⟩
theorem e9.as7(h:e9 w pp pd q cZ dp c0 m xs al){j:Nat}(φ:j<m.stamps.length)(c:Int){N:ao}(K:∀w',e9 w' pp pd q cZ dp c0 {m with stamps:=m.stamps.set j c} xs al->Kp w w' (jK pp q cZ dp c0)->N w'):
  (w.cell? (⟨q.kp,j,none⟩:Addr)).isSome=true/\w.frozen? (⟨q.kp,j,none⟩:Addr)=false/\∀τ,τ=w.setCell (⟨q.kp,j,none⟩:Addr) (.int .i64 c)->N τ:=by
 refine h.stamps.da (j:=j) (by omega) rfl λτ k ε=>?_;have c4:∀i,i=q.kp->hv w cF i:=λi o=>o▸⟨_,by simp,(h.stamps.typed rfl).1⟩;have e:(bw.cI m.stamps).set j (.int .i64 c)=bw.cI (m.stamps.set j c):=by unfold bw.cI;rw[qX]
 have π:lS pd q {m with stamps:=m.stamps.set j c}=lS pd q m:=by unfold lS;dsimp only;rw[im]
 refine K τ ⟨by rw[π];exact gU k c4 h.cell (by decide),vv k c4 h.gate (by decide) (by decide),vr k c4 h.dev (by decide),v8 k c4 h.k8 (by decide) (by decide),h.st.aH k λi o bE=>h.apart (bE▸o),gU k c4 h.dl (by decide),?_,h.apart⟩ (k.mono λi _ o=>.inr (.inr (.inr (.inr (.inr (.inr o))))));show μ τ 0 cj 1 (some ⟨q.kp,0,none⟩) (m.stamps.set j c).length q.sc (bw.cI (m.stamps.set j c));rw[im,<-e];exact ε
end step
theorem apX(w:World):Ax.C 0 w (χ λv w'=>v=.tuple #[]/\w'=w):=by apply Ax.ok;unfold Ax.main;rw[cond_neg (by rfl)];exact χ.mk ⟨rfl,rfl⟩
def yh(e:Int):List PanicEntry:=[{v:=(Value.iface Ws (Value.agg #[(Value.int .i64 e)])),recovered:=false}]
theorem jt{e:Int}{w:World}{N:Value->ao}{X:List PanicEntry->ao}(aD:e=0->N (.tuple #[]) w)(h1:e≠0->X (yh e) w):κ prog 52 #[.int .i64 e] w N X:=by
 show Calls prog _ _ w _;by_cases he:e=0
 ·subst he;exact(apX w).mono λiI w'⟨v,aJ,ι,aG⟩=>by subst aJ ι aG;exact aD rfl
 ·apply Ax.ok;unfold Ax.main;rw[cond_pos (by simpa using he)];exact h1 he
theorem Qv{s k:Int}(dS:6<=s/\s<=24/\2<=k/\k<=16){x:dh}(I:(x.1:Int)<s/\(x.2:Int)<k)(w:World):
  yN.C s k (ev (some x)) (eE (some x)) w (χ λv w'=>v=.tuple #[.int .i64 (mT k x),.int .i64 0]/\η w w'):=by
 have dt:kc (some x):=⟨by omega,by omega⟩;have c4:=(Ob dS x).2 I;rw[Ko]at c4;simp only[kx,po]at c4;apply yN.ok;unfold yN.main;rintro δ γ rfl rfl;have ε:=μ.new (w:=w) (two s k) b2;have w8:=η.alloc w (.cells (two s k).toArray b2);have aO:w.alloc (.cells #[.int .i64 s,.int .i64 k] b2)=w.alloc (.cells (two s k).toArray b2):=rfl;rw[aO];generalize w.alloc (.cells (two s k).toArray b2)=γ at ε w8⊢;refine⟨(two s k).toArray,rfl,ε.cells,?_⟩;refine κ.use (IT s k _) ?_;rintro _ τ ⟨rfl,ι⟩;rw[uE.2 dS]
 try dsimp only[bH]
 rw[cond_neg (by decide)];refine⟨k,(ε.ex ι).at (by rfl),?_⟩;refine κ.use (QH (some x) dt k (by omega) τ) ?_;rintro _ _ ⟨rfl,rfl⟩;rw[Jw,aS I.2];have e:(bt.v64 [(x.1:Int)*k+x.2,0]).toArray=#[.int .i64 ((x.1:Int)*k+x.2),.int .i64 0]:=rfl;rw[e]
 try dsimp only[bX,cC,cD,bk,bH]
 rw[cond_neg (by decide)];have hp:=KS dS;have hm:=Jv (k:=k) (a:=x.1) dt.1 (by omega);refine⟨s,(ε.ex ι).at (by rfl),k,(ε.ex ι).at (by rfl),?_⟩;rw[bY (x:=s*k) (by omega) (by omega)];rw[iD (by omega),bY (by omega) (by omega)];exact χ.mk ⟨rfl,w8.trans ι⟩
section
variable{w:World}{pp pd:Nat}{m:aR}{xs:List (b9.cP×Int)}{al:Int}{D:bf}
theorem e9.at{q:vg}{cZ dp c0:bf}(h:e9 w pp pd q cZ dp c0 m xs al){j:Nat}{v:Value}(φ:(lS pd q m)[j]?=some v):w.cell? (⟨pp,j,none⟩:Addr)=some v:=h.cell.at φ
theorem e9.vT{q:vg}{cZ dp c0:bf}(h:e9 w pp pd q cZ dp c0 m xs al):aw w (⟨pp,2,none⟩:Addr) (two m.s m.k).toArray.toList:=by
 have:=a7.take (w:=w) (a:=some _) (aw.drop (w:=w) (a:=(⟨pp,0,none⟩:Addr)) h.cell.cells 2) 2
 rw[dv]at this;exact this
theorem Mr(h:ho w pp pd m xs al D)(ok:∀e∈m.R,lz e):EX.C (some ⟨pp,0,none⟩) w (χ λv w'=>∃ps,v=.agg (bK m.R ps).toArray/\fp w' m.R ps/\η w w'):=by
 obtain⟨q,cZ,dp,c0,h,b4⟩:=h;apply EX.ok;unfold EX.main;refine AK (η.refl w) λδ γ ej aO ζ qA ρ=>?_;rw[cond_neg (by rfl)]
 try dsimp only[bk]
 simp only[dv];refine⟨_,(h.ex ζ).at (j:=4) rfl,?_⟩;refine κ.use (aiS (h.ex ζ).k8 ok) ?_;rintro _ aa ⟨ps,rfl,bV,ad⟩
 try dsimp only[hx]
 refine κ.use (W3 bV.at) ?_;rintro _ aE ⟨ta,rfl,nS,ak⟩
 try dsimp only[hx,ie]
 have ρ:=(ρ.ex ad).ex ak;refine aW (by rw[fh];exact nS.at.dU) (ρ.put (cs:=bK m.R ta) nS.at.dU nS.at.one λbm hA er=>⟨_,by rw[fh];exact nS.at.dU,er.cells,χ.mk ⟨ta,rfl,nS.cB hA bU (λi o=>o▸(ρ.typed rfl).1) (by decide),((ζ.trans ad).trans ak).then hA λi o=>by omega⟩⟩)
theorem alz(a b c d:Int)(r i:Nat):Instr.fill (λi=>some (i*5,5)) (madeCells #[(Value.int .i64 0),(Value.int .i64 0),(Value.int .i64 0),(Value.int .i64 0),(Value.complex .f64 0 0)] (1*5)) [(0,(Value.agg #[.int .i64 a,.int .i64 b,.int .i64 c,.int .i64 d,.complex .f64 r i]))]=some #[.int .i64 a,.int .i64 b,.int .i64 c,.int .i64 d,.complex .f64 r i]:=
 Sh 5 _ _ (by simp[madeCells]) rfl
theorem KB(h:ho w pp pd m xs al D)(d:fx)(ax:m.dl.length<=100000000):EZ.C (some ⟨pp,0,none⟩) d.k d.v d.ε d.b (eh.cp d.x) (eh.cp d.y) w (χ λv w'=>v=.tuple #[]/\∃bb,dL w D w' pp pd (oK m d) xs al bb):=by
 obtain⟨q,cZ,dp,c0,h,b4⟩:=h;apply EZ.ok;unfold EZ.main;rintro δ γ ej rfl;have ρ:=μ.new (w:=w) d.cells fk;rw[<-ej]at ρ;have ζ:=η.alloc w (.cells d.cells.toArray fk);have aO:w.alloc (.cells #[.int .i64 d.k,.int .i64 d.v,.int .i64 d.ε,.int .i64 d.b,.complex .f64 (eh.cp d.x) (eh.cp d.y)] fk)=w.alloc (.cells d.cells.toArray fk):=rfl;rw[aO];generalize w.alloc (.cells d.cells.toArray fk)=γ at ρ ζ⊢
 try dsimp only[bk]
 have dT:=ζ.trans (η.drew γ);have ρ:=ρ.ex (η.drew γ);simp only[dv];refine⟨_,_,_,(h.ex dT).at (j:=8) rfl,d.cells.toArray,rfl,ρ.cells,?_⟩;have R0:=alz d.k d.v d.ε d.b (eh.cp d.x) (eh.cp d.y);refine gG R0 ?_;rintro θ τ eu rfl;have σ:=η.alloc γ.drew (.cells d.cells.toArray fk);have c2:a7 (γ.drew.alloc (.cells d.cells.toArray fk)) (some ⟨γ.drew.heap.size,0,none⟩) d.cells:=a7.alloc _ fk;rw[<-eu]at c2;have bE:γ.drew.alloc (.cells #[.int .i64 d.k,.int .i64 d.v,.int .i64 d.ε,.int .i64 d.b,.complex .f64 (eh.cp d.x) (eh.cp d.y)] fk)=γ.drew.alloc (.cells d.cells.toArray fk):=rfl;rw[bE];generalize γ.drew.alloc (.cells d.cells.toArray fk)=τ at σ c2⊢;have e4:=dT.trans σ;have ι:=h.ex e4;refine⟨ι.at (j:=8) rfl,?_⟩;refine Bb ι.dl (en _) d.cells c2 rfl cells_one rfl (by omega) (by omega) λbh bI aa bo cd nR=>?_;have c4:∀i,(∃x,q.zI=some x/\x.block=i)->hv τ ai2 i:=λi⟨x,I,o⟩=>⟨_,by simp,o▸(ι.dl.typed I).1⟩;have axH:=c4;have jT:=gU cd c4 ι.cell (by decide);refine jT.da (j:=8) (v:=.slice bh (m.dl.length+1) bI) (by omega) rfl λaz cz cx=>?_;have R6:hv aa A8 pp:=⟨_,by simp,(jT.typed rfl).1⟩;have G9:∀i,i=pp->hv aa A8 i:=λi o=>o▸R6;have hlen:(m.dl++[d]).length=m.dl.length+1:=by simp
 have anY:(lS pd q m).set 8 (.slice bh (m.dl.length+1) bI)=lS pd {q with zI:=bh,dc:=bI} {m with dl:=m.dl++[d]}:=by rw[<-hlen];rfl
 rw[anY]at cx;refine cx.da (j:=9) (v:=.bool true) (by omega) rfl λaE dN cu=>?_;rw[arf]at cu;have Em:=cz.fZ dN;have aqu:μ aa 0 fk 5 bh (m.dl++[d]).length bI (jC (m.dl++[d])):=by
  rw[hlen,Jn]
  have:jC [d]=d.cells:=by simp[jC]
  rw[this];exact bo
 have bg:e9 aE pp pd {q with zI:=bh,dc:=bI} cZ dp c0 (oK m d) xs al:=
  ⟨cu,vv Em G9 (vv cd c4 ι.gate (by decide) (by decide)) (by decide) (by decide),vr Em G9 (vr cd c4 ι.dev (by decide)) (by decide),v8 Em G9 (v8 cd c4 ι.k8 (by decide) (by decide)) (by decide) (by decide),yZ Em G9 (yZ cd c4 ι.st (by decide)) (by decide),gU Em G9 aqu (by decide),gU Em G9 (gU cd c4 ι.stamps (by decide)) (by decide),ι.apart⟩
 refine χ.mk ⟨rfl,_,e9.il b4 bg (Kp.trans ((e4.aH _).fZ (cd.mono λi _ o=>.inr (.inr (.inr (.inr (.inr (.inl o))))))) Em (λ_ _ h=>h) λi _ o=>.inl o) λi o=>?_⟩;rcases o with o|o|o|o|o|⟨x,I,o⟩|o
 ·exact .inl (.inl o)
 ·exact .inl (.inr (.inl o))
 ·exact .inl (.inr (.inr (.inl o)))
 ·exact .inl (.inr (.inr (.inr (.inl o))))
 ·exact .inl (.inr (.inr (.inr (.inr (.inl o)))))
 ·rcases nR with e|e
  ·subst e;exact .inl (.inr (.inr (.inr (.inr (.inr (.inl ⟨x,I,o⟩))))))
  ·have:=e x I
   have:=e4.size
   exact .inr (by omega)
 ·exact .inl (.inr (.inr (.inr (.inr (.inr (.inr o))))))
end
section
variable{w:World}{pp pd:Nat}{m:aR}{xs:List (b9.cP×Int)}{al:Int}{D:bf}
theorem ZE{a:Int}{n:Nat}(h:(n:Int)=a):bw.cp a=j1 n:=by unfold bw.cp j1;rw[h]
theorem B6(h:ho w pp pd m xs al D)(ψ:nH m)(af:sA m){U:List dh}(jb:A7 m.st U){k:Int}(hk:0<=k)(υ:bw.room m.st k=true)(bV:m.stamps.length=m.s.toNat)(aj:m.d.loose.length<=1000000){B:Nat}{p:J}{c:Nat}{bs:an}(ε:μ w B dk 1 p 64 c (bj bs))(ω:a6.kE bs):
  E0.C (some ⟨pp,0,none⟩) p 64 c k w (χ λv w'=>v=dO (some (fP m bs k).2)/\∃bb,dL w D w' pp pd (fP m bs k).1 xs al bb):=by
 have dC:=OP ψ jb hk υ bs;have bJ:=ψ.gx;obtain⟨q,cZ,dp,c0,h,b4⟩:=h;apply E0.ok;unfold E0.main
 try dsimp only[bk]
 simp only[dv];refine⟨_,h.at (j:=5) rfl,?_⟩;refine κ.use (bw.air h.st ψ.fa (en _) k) ?_;rintro _ γ ⟨rfl,aQ⟩;have NS:(bw.next m.st k).2.1=0:=by unfold bw.next;rw[aM (by omega),aS υ]
 obtain⟨t1,t2,t3,t4,t5⟩:=bw.P0 ψ.fa hk υ;have hp:(fP m bs k).2=((bw.next m.st k).2.2.1.toNat,(bw.next m.st k).2.2.2.toNat):=rfl;have BE:(fP m bs k).1={m with st:=(bw.next m.st k).1,d:=a6.da m.d (mT m.k (fP m bs k).2) bs,stamps:=m.stamps.set (fP m bs k).2.1 m.clock}:=rfl;have anu:0<=(bw.next m.st k).2.2.1:=by unfold bw.next;rw[aM (by omega),aS υ];exact t2
 have Hm:0<=(bw.next m.st k).2.2.2:=by unfold bw.next;rw[aM (by omega),aS υ];exact t1.used.1
 have cG:bw.cp (bw.next m.st k).2.2.1=ev (some (fP m bs k).2):=ZE (by rw[hp];exact K5 anu);have fM:bw.cp (bw.next m.st k).2.2.2=eE (some (fP m bs k).2):=ZE (by rw[hp];exact K5 Hm);rw[NS,cG,fM];rw[BE];have T3:=dC.lt;generalize(fP m bs k).2=x at T3⊢
 try dsimp only[bX,cC,cD,bk,bH,rE]
 obtain⟨aws,h1,a1,s1⟩:=h.aex aQ;have arA:=e9.il b4 h1 a1 s1;have aqv:∀{e:TypeId}{sz n aT B':Nat}{bT:J}{vs:aU},μ w B' e sz bT n aT vs->e∉o5->μ γ B' e sz bT n aT vs:=λε ax=>gU a1 (λi o=>(h.hL o).1) ε ax;have ρ:=aqv ε (by decide);refine jt (λ_=>?_) λh=>absurd rfl h
 try dsimp only[bX]
 refine⟨(two m.s m.k).toArray,rfl,h1.vT,?_⟩;refine κ.use (Qv bJ T3 γ) ?_;rintro _ aE ⟨rfl,ak⟩
 try dsimp only[bX,cC,cD,bk,bH]
 have db:=h1.ex ak;refine⟨_,db.at (j:=1) rfl,?_⟩;have aw7:sA {m with st:=(bw.next m.st k).1}:=⟨af.dev,af.off,af.after,af.me⟩;have sP:gW aE dp aE 0 pd m.d dp 1000000:=gW.start db.dev af.dev af.off af.after (Eu ψ af) aj (en _);have p0:=Fw bJ T3;have wX:=af.me;refine sP.put (by omega) (i:=mT m.k x) ⟨by omega,by omega⟩ (a6.mY.B3 db.dev (ρ.ex ak) (by decide) (by decide) (by decide)) ω λb5 ahQ TW fL=>?_
 try dsimp only[bH]
 obtain⟨awq,dr,ao8,asp⟩:=db.PA TW.done;have arH:=(arA.ex ak).trans (e9.il (λi=>mR) dr ao8 asp);refine jt (λ_=>?_) λh=>absurd rfl h
 try dsimp only[bX]
 have dT:=η.drew b5;have jP:=dr.ex dT;have HR:=arH.ex dT;generalize b5.drew=cf at jP HR⊢;refine⟨_,_,_,jP.at (j:=11) rfl,?_⟩;have rH:x.1<=24:=by omega
 refine gG (BY (n:=x.1) rH).2.2.2.1 (aW (by rw[Hp];omega) (aW (by rw[BP];omega) ?_));refine⟨_,jP.at (j:=10) rfl,aW (by omega) (aW (by dsimp only;omega) ?_)⟩;rw[cy,ey]
 try dsimp only[bk]
 rw[dv];refine jP.as7 (j:=x.1) (by dsimp only;omega) _ λcn DM ao4=>?_;refine χ.mk ⟨rfl,_,HR.trans (e9.il (λi=>mR) DM ao4 λi o=>.inl o)⟩
theorem Ib(h:ho w pp pd m xs al D)(o:Inv m)(v b k s:Int)(p:J)(n c:Nat){Z:Value->ao}{X:List PanicEntry->ao}
  (dF:∀bs w' q aT,η w w'->μ w' 0 dk 1 q 64 aT (bj bs)->(∃e,fS m.R v=some e/\0<=b/\b<e.2.1/\bs=(match(e.2.2[b.toNat]?).join with|none=>a6.ia|some x=>hf m.k m.d x))->Z (.slice q 64 aT) w')
  (e5:∀e w',η w w'->e≠0->((fS m.R v=none/\e=4)\/∃x,fS m.R v=some x/\(b<0\/x.2.1<=b)/\e=5)->X (yh e) w'):
  κ prog 78 #[.pointer (some ⟨pp,0,none⟩),.agg #[.int .i64 k,.int .i64 v,.int .i64 b,.int .i64 s,.slice p n c]] w Z X:=by
 obtain⟨f1,f2,f3⟩:=(lu o.gx).1 o.fit;obtain⟨q,cZ,dp,c0,h,b4⟩:=h;show E1.C (some ⟨pp,0,none⟩) k v b s p n c w _;apply E1.ok;unfold E1.main;rintro δ γ ej rfl;have ρ:=μ.new (w:=w) [.int .i64 k,.int .i64 v,.int .i64 b,.int .i64 s,.slice p n c] ff;rw[<-ej]at ρ;have ζ:=η.alloc w (.cells #[.int .i64 k,.int .i64 v,.int .i64 b,.int .i64 s,.slice p n c] ff);generalize w.alloc (.cells #[.int .i64 k,.int .i64 v,.int .i64 b,.int .i64 s,.slice p n c] ff)=γ at ρ ζ⊢
 try dsimp only[bk]
 have dT:=ζ.trans (η.drew γ);have ρ:=ρ.ex (η.drew γ);generalize γ.drew=τ at dT ρ⊢;simp only[dv];refine⟨_,(h.ex dT).at (j:=4) rfl,_,ρ.at (j:=1) rfl,_,ρ.at (j:=2) rfl,?_⟩;refine κ.use (ah6 (h.ex dT).k8 f1 v b) ?_;rintro _ aa ⟨rfl,ad⟩;have gJ:=dT.trans ad;unfold Su;have nf:=@zL m.R v;cases he:fS m.R v with
 |none=>
  try dsimp only[bX,cC,cD,mK,bk,bH,dE,rE]
  exact jt (λh=>by cases h) λh=>e5 4 aa gJ h (.inl ⟨he,rfl⟩)
 |some e=>
  dsimp only;by_cases ψ:0<=b/\b<e.2.1
  ·rw[aS ψ];obtain⟨v0,ax0,aJ,hk⟩:=nf he;have ep:=f1 e (eZ aJ);have hlen:b.toNat<e.2.2.length:=by have:=ep.1;omega
   have mL:e.2.2.getD b.toNat none=e.2.2[b.toNat]:=by rw[List.getD_eq_getElem?_getD,List.getElem?_eq_getElem hlen];rfl
   have aaQ:(e.2.2[b.toNat]?).join=e.2.2[b.toNat]:=by rw[List.getElem?_eq_getElem hlen];rfl
   rw[mL];cases aC:e.2.2[b.toNat]with
   |none=>
    unfold GW
    try dsimp only[bX,cC,cD,mK,bk,bH,dE,rE]
    refine jt (λ_=>?_) λh=>absurd rfl h
    try dsimp only[bX]
    rw[cond_pos (by rfl)];rintro aF ba jd rfl;have em:madeCells #[Value.int .u8 0] (64*1)=(bj a6.ia).toArray:=by
     have:=Ew 1 64 (Value.int .u8 0) (by decide)
     exact this
    rw[em];have bS:=μ.alloc (w:=aa) (bj a6.ia) dk 1 64 rfl;rw[jd];exact dF _ _ _ _ (gJ.trans (η.alloc aa _)) (bS.lower (en _)) ⟨e,he,ψ.1,ψ.2,by rw[aaQ,aC]⟩
   |some x=>
    have BN:x∈used m.R:=vJ.2 ⟨e,eZ aJ,aC▸hF hlen⟩;have I:=f2 x BN;unfold GW dO
    try dsimp only[bX,cC,cD,mK,bk,bH,dE,rE]
    refine jt (λ_=>?_) λh=>absurd rfl h
    try dsimp only[bX]
    rw[cond_neg (by rfl)];have aG:=h.ex gJ;refine⟨(two m.s m.k).toArray,rfl,aG.vT,?_⟩;refine κ.use (Qv o.gx I aa) ?_;rintro _ bm ⟨rfl,aV⟩
    try dsimp only[bX,cC,cD,bk,bH]
    have ih:=aG.ex aV;refine⟨_,ih.at (j:=1) rfl,?_⟩;have p0:=Fw o.gx I;have wX:=o.me;obtain⟨Th,aaJ⟩:=VU o.base o.wK I;refine κ.use (a6.xW ih.dev o.dev (mT m.k x)) ?_;rintro _ cf ⟨cm,υ⟩;have pY:a6.sT m.d (mT m.k x)=0:=by unfold a6.sT;rw[aM (by rw[o.off];simp),aM (by omega)]
    obtain⟨_,bh,bI,lU,BK,rfl,bo⟩:=υ.resolve_left λh=>h.1 pY
    try dsimp only[bX,cC,cD,bk,bH,dY]
    refine jt (λ_=>?_) λh=>absurd rfl h
    try dsimp only[bX]
    rw[Th]at BK;cases BK;exact dF _ _ _ _ ((gJ.trans aV).trans cm) (bo.lower (en _)) ⟨e,he,ψ.1,ψ.2,by rw[aaQ,aC]⟩
  ·rw[aM ψ]
   try dsimp only[bX,cC,cD,mK,bk,bH,dE,rE]
   exact jt (λh=>by cases h) λh=>e5 5 aa gJ h (.inr ⟨e,he,by omega,rfl⟩)
end
theorem V6{w w':World}{S:bf}{T:List Nat}(k:Kp w w' S)(ep:∀i,S i->hv w T i){R:bR}{ps:aU}(h:fp w R ps)(ax:eo∉T):fp w' R ps:=
 h.aH k λi aP _ o=>(ep i o).off aP ax
theorem ZP(x:Int):∀(l:an)(st:bw.hi),zN st (l++[x])=(bw.nL (zN st l) x).1
 |[],st=>rfl
 |y::l,st=>by show zN (bw.nL st y).1 (l++[x])=_;rw[ZP x l];rfl
section
variable{w:World}{pp pd:Nat}{m:aR}{xs:List (b9.cP×Int)}{al:Int}{D:bf}
theorem dL.at_{w0:World}{dV:bf}(h:dL w0 dV w pp pd m xs al D):∃q cZ dp c0,e9 w pp pd q cZ dp c0 m xs al/\∀i,D i↔jK pp q cZ dp c0 i:=h.is
theorem dL.Lu{γ:World}{eU:bf}{m1:aR}{wm:List (b9.cP×Int)}{wc:Int}(h:dL w D γ pp pd m1 wm wc eU)(aD:ho w pp pd m xs al D){R:bR}{ps:aU}(s:fp w R ps):fp γ R ps:=
 V6 h.aH (λi o=>(aD.hL o).1) s (by decide)
theorem Sk{q:vg}{cZ dp c0:bf}(h:e9 w pp pd q cZ dp c0 m xs al)(ψ:nH m)(af:sA m){N:Value->ao}{X:List PanicEntry->ao}{D:bf}(b4:∀i,D i↔jK pp q cZ dp c0 i)
  (K:∀w' pC,e9 w' pp pd q cZ pC c0 {m with d:=kK m.d} xs al->dL w D w' pp pd {m with d:=kK m.d} xs al (jK pp q cZ pC c0)->N (.int .i64 0) w'):
  κ prog 57 #[.pointer (some ⟨pd,0,none⟩)] w N X:=by
 have sP:gW w dp w 0 pd m.d dp m.d.loose.length:=gW.start h.dev af.dev af.off af.after (Eu ψ af) (ew _) (en _);refine sP.flush λw' bb aJ k'=>?_;obtain⟨pC,fU,k,s⟩:=h.PA aJ.done;exact K w' pC fU (e9.il b4 fU k s)
theorem Y9(af:sA m):sA {m with d:=kK m.d}:=⟨ZJ af.dev,af.off,af.after,af.me⟩
theorem ajV{w0:World}{dV:bf}{m1:aR}(bJ:bw.Good m1.st){B:Nat}{p:J}{n c:Nat}{L:an}(lJ:L.length=n)(ax:n<=1000){γ:World}{eU:bf}(h:dL w0 dV γ pp pd m1 xs al eU)(ε:μ γ B cj 1 p n c (bw.cI L))(hp:∀x,p=some x->¬eU x.block){Z:Value->ao}
  (dF:∀w' bb,dL w0 dV w' pp pd {m1 with st:=zN m1.st L} xs al bb->Z (.tuple #[]) w'):
  n0.bd (some ⟨pp,0,none⟩) p n c (n:Int) 0 γ (χ Z):=by
 unfold n0.bd;refine⟨λt0 PT PS Wh t76 t77 W=>some ⟨pp,0,none⟩=t0/\p=PT/\n=PS/\(n:Int)=t76/\0<=t77/\t77<=n/\μ W B cj 1 p n c (bw.cI L)/\∃bb,dL w0 dV W pp pd {m1 with st:=zN m1.st (L.take t77.toNat)} xs al bb/\∀x,p=some x->¬bb x.block,
  λ_ _ _ _ _ t77 _=>(n-t77).toNat,⟨rfl,rfl,rfl,rfl,by omega,by omega,ε,eU,h,hp⟩,?_⟩
 rintro _ _ _ Wh _ t77 W ⟨rfl,rfl,rfl,rfl,aD,h1,ε,bb,h,hp⟩;unfold n0.δ;obtain⟨j,rfl⟩:=eH aD;rw[cy]at h;refine bz (λφ=>?_) λφ=>?_
 ·have φ:=b7 φ;have eP:j<L.length:=by omega
  refine aW (by omega) (aW (by omega) ?_);obtain⟨a,rfl,r⟩:=ε.cells.many (bw.uC (List.getElem?_eq_getElem eP))
  try dsimp only[bk]
  rw[cy,ey];refine⟨_,r,?_⟩;obtain⟨q,cZ,dp,c0,aC,b4⟩:=h.at_
  try simp only[dv]
  refine⟨_,aC.at (j:=5) rfl,?_⟩;have ans:=(Sl (L.take j) bJ).fa;refine κ.use (bw.Xh aC.st ans (en _) L[j]) ?_;rintro _ fw ⟨rfl,aQ⟩
  try dsimp only[bH]
  obtain⟨tN,ι,bP,s2⟩:=aC.aex aQ;have uM:=e9.il b4 ι bP s2;rw[bY (x:=(j:Int)+1) (by omega) (by omega)];have aO:((j:Int)+1).toNat=j+1:=by omega
  have qK:L.take (j+1)=L.take j++[L[j]]:=k6 eP;refine⟨⟨by trivial,by trivial,by trivial,by trivial,by omega,by omega,ε.aH uM.aH λx I=>hp x I,_,?_,λx I=>uM.aqa (hp x I) (ε.ge I).2⟩,by((try dsimp only);omega)⟩;rw[aO,qK,ZP];exact h.trans uM
 ·have φ:=dd φ;obtain rfl:j=n:=by omega
  rw[hc (by omega)]at h;exact χ.mk (dF W bb h)
theorem MM(h:ho w pp pd m xs al D)(hm:wy m)(aC:m.seq+1<=1073741824)(aj:m.d.loose.length<=1000000):n0.C (some ⟨pp,0,none⟩) w (χ λv w'=>v=.tuple #[]/\∃bb,dL w D w' pp pd (qI m) xs al bb):=by
 have Ed:=hm.seq;have JW:=hm.base.gx;apply n0.ok;unfold n0.main;obtain⟨q,cZ,dp,c0,h,b4⟩:=h
 try dsimp only[bk]
 try simp only[dv]
 refine⟨m.seq,h.at (j:=6) rfl,?_⟩;rw[cond_neg (by simp;omega)];unfold n0.a1;refine κ.use (Mr ⟨q,cZ,dp,c0,h,b4⟩ hm.ok) ?_;rintro _ aa ⟨ps,rfl,bV,ad⟩
 try dsimp only[bk,hx,ie]
 refine AK ad λδ aE ej h3 ak l8 cu=>?_;have bV:=bV.ex ak;refine aW (by rw[fh];exact bV.at.dU) (cu.put (cs:=bK m.R ps) bV.at.dU bV.at.one λba ec bS=>?_);have bV:=bV.cB ec bU (λi o=>o▸(cu.typed rfl).1) (by decide);have ks:η w ba:=l8.then ec λi o=>by omega
 clear cu ak ad;have hy:=h.ex ks
 try simp only[dv]
 refine⟨_,hy.at (j:=1) rfl,?_⟩;refine Sk hy hm.base hm.dev b4 λbm A2 ih yQ=>?_
 try dsimp only[bH]
 have JE:∀i,jK pp q cZ A2 c0 i↔jK pp q cZ A2 c0 i:=λi=>mR;have abF:ho ba pp pd m xs al D:=⟨q,cZ,dp,c0,hy,b4⟩;have er:=yQ.dA abF bS (by decide);have Pz:=yQ.Lu abF bV;refine jt (λ_=>?_) λh=>absurd rfl h
 try dsimp only[bX]
 have dT:=η.drew bm;have jP:=ih.ex dT;have jh:=er.ex dT;have Lq:=Pz.ex dT;have HR:=((dL.start ⟨q,cZ,dp,c0,h,b4⟩).ex ks).trans (yQ.ex dT);clear er Pz yQ bS bV;generalize bm.drew=cf at jP jh Lq HR⊢
 try simp only[dv]
 refine⟨_,jP.at (j:=1) rfl,(bK m.R ps).toArray,by rw[fh];exact Lq.at.dU,jh.cells,(two m.s m.k).toArray,rfl,jP.vT,_,jP.at (j:=6) rfl,?_⟩;rw[bY (x:=m.seq+1) (by omega) (by omega)];have BC:=Y9 hm.dev;have sP:gW cf A2 cf 0 pd (kK m.d) A2 0:=gW.start jP.dev BC.dev BC.off BC.after (Eu (m:={m with d:=kK m.d}) ⟨hm.base.gx,hm.base.fa,hm.base.gH,hm.base.blocks⟩ BC) (ew _) (en _);refine κ.use (Xz sP (by omega) Lq.at ⟨by omega,aC⟩ hm.fit) ?_;rintro _ cA ⟨rfl,W7,aoF⟩
 try dsimp only[bH]
 obtain⟨QE,mf,yF,asm⟩:=jP.PA aoF.done;have OS:dL cf (jK pp q cZ A2 c0) cA pp pd _ xs al _:=e9.il (λi=>mR) mf yF asm;have Ub:ho cf pp pd _ xs al (jK pp q cZ A2 c0):=⟨q,cZ,A2,c0,jP,λi=>mR⟩;have r0:=OS.dA Ub jh (by decide);have aep:=OS.Lu Ub Lq;have HP:=HR.trans OS;clear jh Lq HR OS Ub;refine jt (λ_=>?_) λh=>absurd rfl h
 try dsimp only[bX]
 try simp only[dv]
 refine⟨_,mf.at (j:=6) rfl,?_⟩;rw[bY (x:=_+1) (by dsimp only;omega) (by dsimp only;omega)];refine mf.put 6 (by omega) rfl λeA rT s5=>?_;rw[are]at s5;refine s5.da (j:=7) (v:=.int .i64 0) (by omega) rfl λeR xa uG=>?_;have qJ:=adl (pd:=pd) (q:=q) (m:={{m with d:=uR (kK m.d) m.s m.k (m.seq+1) m.R}with seq:=m.seq+1}) 0;have uG:=(show _=lS pd q _ from qJ)▸uG;refine uG.da (j:=8) (v:=.slice none 0 0) (by omega) rfl λga Kr B0=>?_;refine B0.da (j:=9) (v:=.bool false) (by omega) rfl λfO yG pj=>?_;have A5:=((rT.fZ xa).fZ Kr).fZ yG;have c4:∀i,i=pp->hv cA A8 i:=λi o=>o▸⟨_,by simp,(mf.cell.typed rfl).1⟩;have Ns:e9 fO pp pd {q with zI:=none,dc:=0} cZ QE c0 {m with d:=uR (kK m.d) m.s m.k (m.seq+1) m.R,seq:=m.seq+1,used:=0,dl:=[],lj:=false} xs al:=
  ⟨pj,vv A5 c4 mf.gate (by decide) (by decide),vr A5 c4 mf.dev (by decide),v8 A5 c4 mf.k8 (by decide) (by decide),yZ A5 c4 mf.st (by decide),μ.nil _ _ _ _,gU A5 c4 mf.stamps (by decide),mf.apart⟩
 have adx:dL cA (jK pp q cZ QE c0) fO pp pd _ xs al _:=e9.il (λi=>mR) Ns (A5.mono λi _ o=>.inl o) λi o=>by
  rcases o with o|o|o|o|o|⟨x,I,o⟩|o
  ·exact .inl (.inl o)
  ·exact .inl (.inr (.inl o))
  ·exact .inl (.inr (.inr (.inl o)))
  ·exact .inl (.inr (.inr (.inr (.inl o))))
  ·exact .inl (.inr (.inr (.inr (.inr (.inl o)))))
  ·cases I
  ·exact .inl (.inr (.inr (.inr (.inr (.inr (.inr o))))))
 have acw:=gU A5 c4 r0 (by decide);have aeq:=V6 A5 c4 aep (by decide);have ady:=HP.trans adx;clear r0 aep HP adx s5 uG B0 pj rT xa Kr yG;refine⟨_,Ns.at (j:=5) rfl,?_⟩;refine κ.use (bw.Xi Ns.st hm.base.fa) ?_;rintro _ fE ⟨sx,eg,hs,rfl,_⟩
 try dsimp only[bX,cC,cD,bk,bH,dY]
 have dT:=sx.trans (η.drew fE);have p5:=acw.ex dT;have V4:=aeq.ex dT;have GY:=Ns.ex dT;have adz:=ady.ex dT;clear acw aeq ady;generalize fE.drew=eD at p5 V4 GY adz dT⊢
 try simp only[dv]
 refine⟨(bK m.R ps).toArray,by rw[fh];exact V4.at.dU,p5.cells,(two m.s m.k).toArray,rfl,GY.vT,?_⟩;rintro θ fv eu rfl;have ai:=μ.new (w:=eD) [.int .i64 m.st.head] cj;rw[<-eu]at ai;have wk:=η.alloc eD (.cells #[.int .i64 m.st.head] cj);generalize eD.alloc (.cells #[.int .i64 m.st.head] cj)=fv at ai wk⊢;have kn:=p5.ex wk;have aer:=V4.ex wk;have GZ:=GY.ex wk;have arC:=adz.ex wk;refine aW rfl ⟨GZ.vT,aW (by rw[fh];exact aer.at.dU) ⟨kn.cells,?_⟩⟩;have zW:(gm (used m.R)).length<=4096:=by
  have h1:=((lu JW).1 hm.fit).2.2
  have:(m.s-4)*m.k<=20*16:=sd (by omega) (by omega) (by omega) (by omega)
  have ι:(gm (used m.R)).length=iF m.R:=rfl;omega
 refine κ.use (QI (but:=[m.st.head]) aer.at hm.fit.1 zW ai.cells rfl (by omega)) ?_;rintro _ eJ ⟨fH,iC,rfl,nA,Am⟩
 try dsimp only[bX,cC,cD,bk,bH,dY]
 have HQ:=arC.ex nA;have nj:∀x,fH=some x->¬jK pp {q with zI:=none,dc:=0} cZ QE c0 x.block:=λx I bg=>by
  have:=(Am.ge I).1
  have:=(GZ.hL bg).2
  omega
 have vB:=Sm m.s.toNat (lays (used m.R)) [m.st.head];refine ajV (m1:={m with d:=uR (kK m.d) m.s m.k (m.seq+1) m.R,seq:=m.seq+1,used:=0,dl:=[],lj:=false}) hm.base.fa rfl (by omega) HQ Am nj λw' bb hp=>⟨rfl,bb,hp⟩
end
section
variable{w:World}{pp pd:Nat}{m:aR}{xs:List (b9.cP×Int)}{al:Int}{D:bf}
theorem YC{m':aR}(ψ:nH m)(h1:m'.s=m.s)(ι:m'.k=m.k)(aG:m'.st=m.st):nH m':=⟨by rw[h1,ι];exact ψ.gx,by rw[aG];exact ψ.fa,by rw[aG,h1];exact ψ.gH,by rw[aG,ι];exact ψ.blocks⟩
theorem atf(h:ho w pp pd m xs al D)(o:Inv m)(aC:m.seq+1<=1073741824)(aj:m.d.loose.length<=900000)(wX:m.dl.length<=900000):E3.C (some ⟨pp,0,none⟩) w (χ λv w'=>v=.tuple #[]/\∃bb,dL w D w' pp pd (xF m) xs al bb):=by
 have Ed:=o.seq;have hu:=o.mX;apply E3.ok;unfold E3.main;obtain⟨q,cZ,dp,c0,h,b4⟩:=h;have w1:ho w pp pd m xs al D:=⟨q,cZ,dp,c0,h,b4⟩
 try dsimp only[bk]
 simp only[dv];refine⟨m.lj,h.at (j:=9) rfl,?_⟩;unfold xF;cases aP:m.lj with
 |false=>
  rw[cond_pos (by rfl),aS rfl];exact χ.mk ⟨rfl,D,dL.start w1⟩
 |true=>
  rw[cond_neg (by rfl),aM (by decide)];refine⟨_,_,_,h.at (j:=8) rfl,_,h.at (j:=7) rfl,λa1=>?_⟩;rw[bY (x:=16-(m.used:Int)) (by omega) (by omega),bY (by omega) (by omega)];refine bz (λπ=>?_) λπ=>?_
  ·have π:=b7 π;rw[aS (by omega)];refine κ.use (MM (w1.ex (η.drewN w a1)) o.vK aC (by omega)) ?_;rintro _ γ ⟨rfl,bb,hp⟩
   try dsimp only[bX]
   exact χ.mk ⟨rfl,bb,((dL.start w1).ex (η.drewN w a1)).trans hp⟩
  ·have π:=dd π;rw[aM (by omega)];have WQ:=η.drewN w a1;have adw:=(dL.start w1).ex WQ;have h:=h.ex WQ;generalize w.drewN a1=w0 at WQ adw h⊢;refine⟨_,h.at (j:=1) rfl,?_⟩;refine Sk h o.base o.wK b4 λaa IV aG qV=>?_
   try dsimp only[bH]
   refine jt (λ_=>?_) λh=>absurd rfl h
   try dsimp only[bX]
   have dT:=η.drew aa;have db:=aG.ex dT;have adA:=adw.trans (qV.ex dT);generalize aa.drew=aE at db adA⊢
   try simp only[dv]
   refine⟨_,db.at (j:=1) rfl,_,db.at (j:=6) rfl,_,db.at (j:=7) rfl,_,_,_,db.at (j:=8) rfl,?_⟩;have BC:=Y9 o.wK;have aw1:nH {m with d:=kK m.d}:=YC o.base rfl rfl rfl;have sP:gW aE IV aE 0 pd (kK m.d) IV 0:=gW.start db.dev BC.dev BC.off BC.after (Eu o.base o.wK) (ew _) (en _);refine κ.use (aiF sP (by omega) (seq:=m.seq) ⟨Ed,by omega⟩ (u:=m.used) db.dl rfl (by dsimp only;omega) hu (λd af=>(o.dl d af).1) λd af=>(o.dl d af).2) ?_;rintro _ bm ⟨rfl,awo,aoH⟩
   try dsimp only[bX,cC,cD,bk,bH]
   obtain⟨A2,ih,hA,aso⟩:=db.PA aoH.done;have yQ:=adA.trans (e9.il (λi=>mR) ih hA aso);refine jt (λ_=>?_) λh=>absurd rfl h
   try dsimp only[bX]
   try simp only[dv]
   refine⟨_,ih.at (j:=1) rfl,?_⟩;have Bz:nH {m with d:=Ck (kK m.d) m.seq m.used m.dl}:=YC o.base rfl rfl rfl;have amZ:sA {m with d:=Ck (kK m.d) m.seq m.used m.dl}:=by have low:=ael (iA.flush (iA.refl o.dev)) (Eu o.base o.wK) m.seq (u:=m.used) o.dl (by unfold j2;omega);exact⟨low.fa,low.off.trans o.off,low.after.trans o.after,by have:=o.me;rw[<-low.len]at this;exact this⟩
   refine Sk ih Bz amZ (λi=>mR) λcA W7 mf HP=>?_
   try dsimp only[bH]
   have HP:=yQ.trans HP;refine jt (λ_=>?_) λh=>absurd rfl h
   try dsimp only[bX]
   try simp only[dv]
   refine mf.put 7 (by omega) rfl λeA rT s5=>?_;rw[adl]at s5;refine s5.da (j:=8) (v:=.slice none 0 0) (by omega) rfl λeR xa uG=>?_;refine uG.da (j:=9) (v:=.bool false) (by omega) rfl λga Kr B0=>?_;have K:=(rT.fZ xa).fZ Kr;have c4:∀i,i=pp->hv cA A8 i:=λi o=>o▸⟨_,by simp,(mf.cell.typed rfl).1⟩;have SC:e9 ga pp pd {q with zI:=none,dc:=0} cZ W7 c0 {m with d:=kK (Ck (kK m.d) m.seq m.used m.dl),used:=m.used+j2 m.dl.length,dl:=[],lj:=false} xs al:=
    ⟨B0,vv K c4 mf.gate (by decide) (by decide),vr K c4 mf.dev (by decide),v8 K c4 mf.k8 (by decide) (by decide),yZ K c4 mf.st (by decide),μ.nil _ _ _ _,gU K c4 mf.stamps (by decide),mf.apart⟩
   refine χ.mk ⟨rfl,_,HP.trans (e9.il (λi=>mR) SC (K.mono λi _ o=>.inl o) λi o=>?_)⟩;rcases o with o|o|o|o|o|⟨x,I,o⟩|o
   ·exact .inl (.inl o)
   ·exact .inl (.inr (.inl o))
   ·exact .inl (.inr (.inr (.inl o)))
   ·exact .inl (.inr (.inr (.inr (.inl o))))
   ·exact .inl (.inr (.inr (.inr (.inr (.inl o)))))
   ·cases I
   ·exact .inl (.inr (.inr (.inr (.inr (.inr (.inr o))))))
end
end Go.Proofs.YtcpdfhkhaekekaaGreat.G.eb
