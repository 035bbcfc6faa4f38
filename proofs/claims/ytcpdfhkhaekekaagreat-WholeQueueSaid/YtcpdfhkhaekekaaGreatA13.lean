/- The walk of the functions, and the plain laws of the model: part of the proof. Conditions: none. -/
import Derived.Test.YtcpdfhkhaekekaaGreatA12
set_option linter.unusedVariables false
set_option linter.unusedSimpArgs false
namespace Go.Proofs.YtcpdfhkhaekekaaGreat.G.aK
open Go.bI Go.RowKit cr dB eh cQ
structure Fr(st wI:bs.hv)(l:ao):Prop where
 e8:bs.Good wI
 gT:wI.gT=st.gT
 blocks:wI.blocks=st.blocks
 head:wI.head=st.head
 used:wI.used=st.used
 mem:∀x,x∈wI.free↔x∈st.free\/(x∈l/\0<=x/\x<st.gT/\x≠st.head)
theorem amv{st:bs.hv}(h:bs.Good st)(k:Int):Fr st (bs.nZ st k).1 [k]:=by
 have bL:=bs.aai h k;unfold bs.nZ at bL⊢;split
 ·rename_i h1;refine⟨h,rfl,rfl,rfl,rfl,λx=>⟨.inl,λI=>I.resolve_right ?_⟩⟩;rintro⟨hm,η,au,_⟩;simp only[lp]at hm;omega
 ·rename_i h1;rw[aN h1]at bL;split
  ·rename_i η;refine⟨h,rfl,rfl,rfl,rfl,λx=>⟨.inl,?_⟩⟩;rintro(I|⟨hm,_,_,c9⟩)
   ·exact I
   ·simp only[lp]at hm;subst hm;exact η.resolve_left c9
  ·rename_i η;rw[aN η]at bL;refine⟨bL,rfl,rfl,rfl,rfl,λx=>?_⟩;dsimp only;rw[bs.Vg];constructor
   ·rintro(rfl|I)
    ·exact .inr ⟨List.mem_singleton_self _,by omega,by omega,λe=>η (.inl e)⟩
    ·exact .inl I
   ·rintro(I|⟨hm,_⟩)
    ·exact .inr I
    ·exact .inl (lp.1 hm)
theorem S1:∀(l:ao){st:bs.hv},bs.Good st->Fr st (Aj st l) l
 |[],st,h=>⟨h,rfl,rfl,rfl,rfl,λx=>⟨.inl,λI=>I.resolve_right λh=>by cases h.1⟩⟩
 |k::r,st,h=>by
  have h1:=amv h k;have η:=S1 r h1.e8;refine⟨η.e8,η.gT.trans h1.gT,η.blocks.trans h1.blocks,η.head.trans h1.head,η.used.trans h1.used,λx=>?_⟩;show x∈(Aj (bs.nZ st k).1 r).free↔_;rw[η.mem,h1.mem,h1.gT,h1.head];simp only[fE,oj,pa];constructor
  ·rintro((h|h)|h)
   ·exact .inl h
   ·exact .inr ⟨.inl h.1,h.2⟩
   ·exact .inr ⟨.inr h.1,h.2⟩
  ·rintro(h|⟨h|h,au⟩)
   ·exact .inl (.inl h)
   ·exact .inl (.inr ⟨h,au⟩)
   ·exact .inr ⟨h,au⟩
theorem aee{l:ao}(h:bs.Da l):l.Nodup:=List.Pairwise.imp (λ{a b}(h:a<b)=>(by omega:a≠b)) h
theorem Vf{n:Nat}{V:List di}{h x:Int}:x∈kC n V [h]↔∃i:Nat,i<n/\x=(i:Int)/\(∀z∈V,z.1≠i)/\x≠h:=by
 unfold kC;simp only[gM,mO,nF];constructor
 ·rintro⟨i,⟨o,bf⟩,rfl⟩;unfold Az at bf;simp only[kH,Bool.not_eq_true',beq_iff_eq]at bf;refine⟨i,o,rfl,λz aI e=>?_,λe=>?_⟩
  ·have:=q9 bf.1
   have hm:z∈V.filter λx=>x.1==i:=mO.2 ⟨aI,by simpa using e⟩;rw[this]at hm;cases hm
  ·have η:=bf.2
   have:bs.has [h] (i:Int)=true:=(bs.Oc _ _).2 (by rw[e];exact List.mem_singleton_self _)
   rw[this]at η;cases η
 ·rintro⟨i,o,rfl,aI,cc⟩;refine⟨i,⟨o,?_⟩,rfl⟩;unfold Az;have h1:(V.filter λx=>x.1==i)=[]:=PQ.2 λz hm=>by simpa using aI z hm
  have η:bs.has [h] (i:Int)=false:=by
   cases ay:bs.has [h] (i:Int)with
   |false=>rfl
   |true=>exact absurd (lp.1 ((bs.Oc _ _).1 ay)) cc
  rw[h1,η];rfl
theorem HY{R:bW}(ok:∀e∈R,lN e){x:di}:x∈lays (used R)↔x∈used R:=HX (rj ok)
structure sC(m:aK):Prop where
 dev:bh.Good m.d
 off:m.d.off=false
 after:m.d.after=-1
 mA:(m.d.now.length:Int)=40+m.s*m.k
theorem Inv.xl{m:aK}(h:Inv m):sC m:=⟨h.dev,h.off,h.after,h.mA⟩
theorem ar3{m:aK}(h:nT m):12<=m.s*m.k:=by
 have:=h.gG
 have:6*2<=m.s*m.k:=se this.1 this.2.2.1 (by omega) (by omega)
 omega
theorem Wo{m:aK}(h:nT m)(ae:sC m){x:di}(I:(x.1:Int)<m.s/\(x.2:Int)<m.k):m.d.now[(me m.k x).toNat]?=some (gO m.k m.d x)/\bh.kP (gO m.k m.d x):=by
 have h1:=F1 h.gG I;have η:=ae.mA;have an:(me m.k x).toNat<m.d.now.length:=by omega
 have e:gO m.k m.d x=m.d.now[(me m.k x).toNat]:=by unfold gO;rw[List.getD_eq_getElem?_getD,List.getElem?_eq_getElem an];rfl
 rw[e];exact⟨List.getElem?_eq_getElem an,ae.dev.now _ (hN an)⟩
structure Rc(m m':aK)(xs ys U:List di):Prop where
 base:nT m'
 dev:sC m'
 ok:Bu m'.st (ys++U)
 len:ys.length=xs.length
 lo:ys.Nodup
 new:∀y∈ys,y∉U
 lt:∀y∈ys,(y.1:Int)<m.s/\(y.2:Int)<m.k
 aes:∀y∈ys,(y.1:Int)=m.st.head\/(y.1:Int)∈m.st.free
 head:m'.st.head=m.st.head\/m'.st.head∈m.st.free
 sub:∀x∈m'.st.free,x∈m.st.free
 old:∀z:di,(z.1:Int)<m.s/\(z.2:Int)<m.k->z∉ys->gO m.k m'.d z=gO m.k m.d z
 sec:ys.map (gO m.k m'.d)=xs.map (gO m.k m.d)
 s:m'.s=m.s
 k:m'.k=m.k
 R:m'.R=m.R
 dl:m'.dl=m.dl
 seq:m'.seq=m.seq
 nn:m'.used=m.used
 clock:m'.clock=m.clock
 lB:m'.lB=m.lB
 ot:m'.stamps.length=m.stamps.length
 qz:(∀t∈m.stamps,0<=t/\t<=m.clock)->0<=m.clock->∀t∈m'.stamps,0<=t/\t<=m.clock
 loose:m'.d.loose.length=m.d.loose.length+xs.length
 fZ:1<=m'.st.free.length
 two:bs.full m.st=false->m.st.used+xs.length<=m.k->m'.st.free.length=m.st.free.length
 acN:(bs.full m.st=true/\xs≠[])\/(0<=m.st.head/\m.st.used+xs.length<m.k)->bs.full m'.st=false
theorem NW{m:aK}(h:nT m):bs.full m.st=false↔0<=m.st.head/\m.st.used<m.k:=by
 unfold bs.full;have h1:=h.e8.used;have η:=h.blocks;rw[Pz,Lz];constructor
 ·rintro⟨a,b⟩
  have:m.st.used≠m.st.blocks:=by simpa using b
  omega
 ·rintro⟨a,b⟩;refine⟨by omega,?_⟩
  have:m.st.used≠m.st.blocks:=by omega
  simpa using this
theorem aeh{m:aK}(h:1<=m.st.free.length\/bs.full m.st=false):bs.room m.st 0=true:=by
 unfold bs.room;rcases h with h|h
 ·simp;right;omega
 ·simp[h]
theorem MY.dev{m m':aK}{x:di}{bF:ao}{U:List di}(h:MY m m' x bF U)(ω:nT m)(ae:sC m)(ψ:bh.kP bF):sC m':=by have h1:=F1 ω.gG h.lt;have η:=ae.mA;refine⟨by rw[h.d];exact bh.VV ae.dev (by omega) ψ,by rw[h.d];exact ae.off,by rw[h.d];exact ae.after,?_⟩;rw[h.d,h.s,h.k];show(((m.d.now.set _ _).length:Nat):Int)=_;rw[jB];exact ae.mA
theorem Sf:∀(xs:List di)(m:aK)(U:List di),nT m->sC m->Bu m.st U->(∀x∈xs,x∈U)->(∀x∈U,(x.1:Int)<m.s/\(x.2:Int)<m.k)->
  ((2<=m.st.free.length/\(xs.length:Int)<m.k)\/(1<=m.st.free.length/\0<=m.st.head/\m.st.used+xs.length<m.k))->Rc m (hT m xs).1 xs (hT m xs).2 U
 |[],m,U,ω,ae,ji,_,_,ar=>⟨ω,ae,ji,rfl,List.nodup_nil,λy ag=>(by cases ag),λy ag=>(by cases ag),λy ag=>(by cases ag),.inl rfl,λ_ h=>h,λ_ _ _=>rfl,rfl,rfl,rfl,rfl,rfl,rfl,rfl,rfl,rfl,rfl,λh _=>h,rfl,(by rcases ar with h|h;exact fo (by decide) h.1;exact h.1),λ_ _=>rfl,
   λh=>(NW ω).2 (by rcases h with h|h;exact absurd rfl h.2;simp at h;omega)⟩
 |x::r,m,U,ω,ae,ji,I,bQ,ar=>by
  have oV:=bQ x (I x (by simp));obtain⟨bL,l5⟩:=Wo ω ae oV;have mE:bs.room m.st 0=true:=aeh (by
   rcases ar with h|h
   ·exact .inl (by omega)
   ·exact .inl h.1)
  have dI:=Ps ω ji (Int.le_refl 0) mE (gO m.k m.d x);unfold hT;generalize hp:(ga m (gO m.k m.d x) 0).1=m1 at dI⊢;generalize ag:(ga m (gO m.k m.d x) 0).2=y at dI⊢;have l0:=dI.dev ω ae l5;have hlen:((x::r).length:Int)=r.length+1:=by simp
  have an0:=NW dI.base;have Km:0<=m1.st.head:=by rw[dI.head];omega
  have qf:(2<=m1.st.free.length/\(r.length:Int)<m1.k)\/(1<=m1.st.free.length/\0<=m1.st.head/\m1.st.used+r.length<m1.k):=by
   rw[dI.k];rcases dI.fZ with⟨f1,f2,f3⟩|⟨f1,f2,f3⟩
   ·rcases ar with h|h
    ·exact .inr ⟨by omega,Km,by omega⟩
    ·have:=(NW ω).2 ⟨h.2.1,by omega⟩
     rw[this]at f1;cases f1
   ·rcases ar with h|h
    ·exact .inl ⟨by rw[f2];exact h.1,by omega⟩
    ·exact .inr ⟨by rw[f2];exact h.1,Km,by omega⟩
  have cq:=Sf r m1 (y::U) dI.base l0 dI.ok (λz aI=>h9 _ (I z (h9 _ aI))) (λz aI=>by
   rw[dI.s,dI.k];rcases fE.1 aI with rfl|aI
   ·exact dI.lt
   ·exact bQ z aI) qf
  have B7:r=[]->(hT m1 r).1=m1:=λh=>by rw[h];rfl
  generalize hT m1 r=q at cq B7⊢;obtain⟨m2,ys⟩:=q;dsimp only at cq⊢;have Au:∀z:di,(z.1:Int)<m.s/\(z.2:Int)<m.k->gO m.k m1.d z=if z=y then gO m.k m.d x else gO m.k m.d z:=λz aI=>by rw[dI.d];exact Wq ω.gG ae.mA dI.lt _ aI
  have UM:y∉ys:=λhm=>cq.new y hm om;have abM:∀{s:Int},s=m1.st.head\/s∈m1.st.free->s=m.st.head\/s∈m.st.free:=λh=>by
   rcases h with h|h
   ·rw[h,dI.head];exact dI.from_
   ·exact .inr (dI.sub _ h)
  refine⟨cq.base,cq.dev,⟨λz aI=>cq.ok.free z ?_,λz aI=>cq.ok.head z ?_⟩,by simp[cq.len],LK.2 ⟨UM,cq.lo⟩,λz aI=>?_,λz aI=>?_,λz aI=>?_,abM cq.head,λz aI=>dI.sub z (cq.sub z aI),λz aI ab1=>?_,?_,cq.s.trans dI.s,cq.k.trans dI.k,cq.R.trans dI.R,cq.dl.trans dI.dl,cq.seq.trans dI.seq,cq.nn.trans dI.nn,cq.clock.trans dI.clock,cq.lB.trans dI.lB,
   by rw[cq.ot,dI.stamps,jB],λh aF t aO=>?_,by rw[cq.loose,dI.d];show(m.d.loose++[_]).length+_=_;simp;omega,cq.fZ,λh1 η=>?_,λh=>cq.acN ?_⟩
  ·have:z∈y::(ys++U):=aI
   simp only[fE,iI]at this⊢;rcases this with h|h|h
   ·exact .inr (.inl h)
   ·exact .inl h
   ·exact .inr (.inr h)
  ·have:z∈y::(ys++U):=aI
   simp only[fE,iI]at this⊢;rcases this with h|h|h
   ·exact .inr (.inl h)
   ·exact .inl h
   ·exact .inr (.inr h)
  ·rcases fE.1 aI with rfl|aI
   ·exact dI.new
   ·exactλhu=>cq.new z aI (h9 _ hu)
  ·rcases fE.1 aI with rfl|aI
   ·exact dI.lt
   ·have:=cq.lt z aI
    rw[dI.s,dI.k]at this;exact this
  ·rcases fE.1 aI with rfl|aI
   ·exact dI.from_
   ·exact abM (cq.aes z aI)
  ·have h1:=cq.old z (by rw[dI.s,dI.k];exact aI) λhm=>ab1 (h9 _ hm);rw[dI.k]at h1;rw[h1,Au z aI,aN λe:z=y=>ab1 (by rw[e];exact om)]
  ·have h1:=cq.old y (by rw[dI.s,dI.k];exact dI.lt) UM;have η:=cq.sec;rw[dI.k]at h1 η;rw[x1,x1,h1,Au y dI.lt,aY rfl,η];congr 1;apply CE;intro z aI;have ab0:=I z (h9 _ aI);rw[Au z (bQ z ab0),aN λe:z=y=>dI.new (by rw[<-e];exact ab0)]
  ·have au:∀t∈m1.stamps,0<=t/\t<=m1.clock:=λt aO=>by
    rw[dI.clock];rw[dI.stamps]at aO;rcases pH aO with aO|rfl
    ·exact h t aO
    ·omega
   have:=cq.qz au (by rw[dI.clock];exact aF) t aO
   rw[dI.clock]at this;exact this
  ·rcases dI.fZ with⟨f1,f2,f3⟩|⟨f1,f2,f3⟩
   ·rw[h1]at f1;cases f1
   ·by_cases σ:r=[]
    ·subst σ;have bz:m2=m1:=B7 rfl;rw[bz,f2]
    ·have:=cq.two (an0.2 ⟨Km,by
      have:0<r.length:=V8.2 σ
      rw[dI.k];omega⟩) (by rw[dI.k];omega)
     rw[this,f2]
  ·rcases dI.fZ with⟨f1,f2,f3⟩|⟨f1,f2,f3⟩
   ·refine .inr ⟨Km,?_⟩;rw[dI.k];rcases ar with ar|ar
    ·omega
    ·have:=(NW ω).2 ⟨ar.2.1,by omega⟩
     rw[this]at f1;cases f1
   ·rcases h with h|h
    ·rw[f1]at h;cases h.1
    ·exact .inr ⟨Km,by rw[dI.k];omega⟩
theorem QK(f:di->di)(R:bW):used (kg f R)=(used R).map f:=by
 unfold used kg;rw[List.flatMap_map,List.map_flatMap];congr 1
 funext e
 unfold pU;dsimp only
 induction e.2.2 with
 |nil=>rfl
 |cons q l cq=>cases q with|none=>simpa using cq|some x=>simpa using cq
theorem aqm(f g:di->di)(R:bW):kg f (kg g R)=kg (f∘g) R:=by
 unfold kg;rw[CD];congr 1
 funext e
 simp[CD,Option.map_map,Function.comp_def]
theorem acv(R:bW):kg id R=R:=by unfold kg;simp
def Rn(f:di->di)(l:List di):Prop:=∀x∈l,∀y∈l,f x=f y->x=y
theorem aci{f:di->di}{R:bW}(h:Rn f (used R)):iP (kg f R)=iP R:=by
 unfold iP;rw[QK];apply Nat.le_antisymm
 ·have:=rZ (gB ((used R).map f)) ((gB (used R)).map f) (xR _) λx I=>by
   obtain⟨y,ag,rfl⟩:=gM.1 ((kt _ _).1 I);exact gM.2 ⟨y,(kt _ _).2 ag,rfl⟩
  rwa[jP]at this
 ·have ar:((gB (used R)).map f).Nodup:=by
   refine PR _ (S:=λa b=>a≠b) (R:=λa b=>f a≠f b) (λ_ _ h=>h) ?_|>λh=>h
   exact V9 (λ{a b}aP ω s0 e=>s0 (h a ((kt _ _).1 aP) b ((kt _ _).1 ω) e)) (xR (used R))
  have:=rZ ((gB (used R)).map f) (gB ((used R).map f)) ar λx I=>by obtain⟨y,ag,rfl⟩:=gM.1 I;exact(kt _ _).2 (gM.2 ⟨y,(kt _ _).1 ag,rfl⟩)
  rwa[jP]at this
theorem Vj:∀(xs ys:List di)(R:bW),xs.Nodup->ys.Nodup->ys.length=xs.length->(∀x∈xs,x∈used R)->(∀y∈ys,y∉used R/\gS y)->
  Jm R xs ys/\∃g:di->di,ln R xs ys=kg g R/\(∀z∈used R,z∉xs->g z=z)/\ys=xs.map g/\Rn g (used R)
 |[],[],R,_,_,_,_,_=>⟨trivial,id,(acv R).symm,λ_ _ _=>rfl,rfl,λ_ _ _ _ h=>h⟩
 |[],y::ys,R,_,_,h,_,_=>by simp at h
 |x::xs,[],R,_,_,h,_,_=>by simp at h
 |x::xs,y::ys,R,I,ag,an,Cd,UN=>by
  obtain⟨Cc,iz⟩:=LK.1 I;obtain⟨UK,ON⟩:=LK.1 ag;have abY:=Cd x (by simp);obtain⟨OO,apD⟩:=UN y (by simp);have jy:∀z,z∈used (kg (lA x y) R)↔∃w∈used R,lA x y w=z:=λz=>by rw[QK,gM]
  have abi:∀z∈used R,z≠x->z∈used (kg (lA x y) R):=λz aI cc=>(jy z).2 ⟨z,aI,by unfold lA;rw[aN cc]⟩;obtain⟨h1,g,η,au,bV,c9⟩:=Vj xs ys (kg (lA x y) R) iz ON (by simpa using an) (λz aI=>abi z (Cd z (h9 _ aI)) λe=>Cc (e▸aI)) (λz aI=>⟨λhm=>by
   obtain⟨w,hw,e⟩:=(jy z).1 hm;unfold lA at e;split at e
   ·exact UK (e▸aI)
   ·exact(UN z (h9 _ aI)).1 (e▸hw),(UN z (h9 _ aI)).2⟩)
  refine⟨⟨abY,OO,apD,h1⟩,g∘lA x y,by show ln (kg (lA x y) R) xs ys=_;rw[η,aqm],λz aI ar=>?_,?_,λa aP b ω e=>?_⟩
  ·have cc:z≠x:=λe=>ar (e▸om);show g (lA x y z)=z;unfold lA;rw[aN cc];exact au z (abi z aI cc) λhm=>ar (h9 _ hm)
  ·rw[x1,bV];congr 1
   ·show y=g (lA x y x);unfold lA;rw[aY rfl];exact(au y ((jy y).2 ⟨x,abY,by unfold lA;rw[aY rfl]⟩) λhm=>OO (Cd y (h9 _ hm))).symm
   ·apply CE;intro z aI;show g z=g (lA x y z);unfold lA;rw[aN λe:z=x=>Cc (e▸aI)]
  ·have:=c9 _ ((jy _).2 ⟨a,aP,rfl⟩) _ ((jy _).2 ⟨b,ω,rfl⟩) e
   unfold lA at this;split at this<;>split at this
   ·rename_i aM bz;rw[aM,bz]
   ·exact absurd (this▸ω) OO
   ·exact absurd (this▸aP) OO
   ·exact this
structure C5(m m':aK):Prop where
 s:m'.s=m.s
 k:m'.k=m.k
 R:m'.R=m.R
 clock:m'.clock=m.clock
 stamps:m'.stamps=m.stamps
 fr:Fr m.st m'.st (kC m.s.toNat (lays (used m.R)) [m.st.head])
 low:iK m.d m'.d
 seq:m'.seq=m.seq+1
 dl:m'.dl=[]
 nn:m'.used=0
 loose:m'.d.loose=[]
 lB:m'.lB=false
structure xb(m:aK):Prop where
 base:nT m
 dev:sC m
 len:m.R.length=8
 ok:∀e∈m.R,lN e
 fit:lV m.s m.k m.R
 st:Bu m.st (used m.R)
 ot:m.stamps.length=m.s.toNat
 qz:∀t∈m.stamps,0<=t/\t<=m.clock
 dl:∀d∈m.dl,d.wf/\h4 d=0
 nn:m.used<=16
 seq:1<=m.seq
theorem Inv.wj{m:aK}(h:Inv m):xb m:=⟨h.base,h.xl,h.len,h.ok,h.fit,h.IN,h.ot,h.qz,h.dl,h.nn,h.seq⟩
theorem xb.inv{m:aK}(h:xb m)(η:2<=m.st.free.length):Inv m:=⟨h.base.gG,h.len,h.ok,h.fit,h.base.e8,h.base.gT,h.base.blocks,η,h.st.free,h.st.head,h.dev.dev,h.dev.off,h.dev.after,h.dev.mA,h.ot,h.qz,h.dl,h.nn,h.seq⟩
theorem E3{m:aK}(ω:nT m)(ae:sC m):40<=m.d.now.length:=by
 have:=ar3 ω
 have:=ae.mA
 omega
theorem Zq{m:aK}(h:xb m)(ay:m.seq+1<=1073741824):C5 m (qS m):=
 ⟨rfl,rfl,rfl,rfl,rfl,S1 _ h.base.e8,as8 (iK.flush (iK.refl h.dev.dev)) (E3 h.base h.dev) ⟨by have:=h.seq;omega,ay⟩ h.fit h.ok h.len,rfl,rfl,rfl,rfl,rfl⟩
theorem C5.wj{m m':aK}(c:C5 m m')(h:xb m):xb m':=by
 refine⟨⟨by rw[c.s,c.k];exact h.base.gG,c.fr.e8,by rw[c.fr.gT,c.s];exact h.base.gT,by rw[c.fr.blocks,c.k];exact h.base.blocks⟩,⟨c.low.e8,c.low.off.trans h.dev.off,c.low.after.trans h.dev.after,by rw[c.low.len,c.s,c.k];exact h.dev.mA⟩,by rw[c.R];exact h.len,by rw[c.R];exact h.ok,by rw[c.s,c.k,c.R];exact h.fit,?_,by rw[c.stamps,c.s];exact h.ot,by rw[c.stamps,c.clock];exact h.qz,by rw[c.dl];exactλd ae=>(by cases ae),by rw[c.nn];omega,by rw[c.seq];have:=h.seq;omega⟩;rw[c.R];refine⟨λx I hm=>?_,λx I e=>?_⟩
 ·rcases(c.fr.mem _).1 hm with hm|⟨hm,_⟩
  ·exact h.st.free x I hm
  ·obtain⟨i,o,e,aI,_⟩:=Vf.1 hm;exact aI x ((HY h.ok).2 I) (by omega)
 ·rw[c.fr.head]at e;rw[c.fr.used];exact h.st.head x I e
theorem C5.len{m m':aK}(c:C5 m m')(h:xb m):m.st.free.length<=m'.st.free.length:=
 rZ _ _ (aee h.base.e8.FQ) λx I=>(c.fr.mem x).2 (.inl I)
theorem R5{m:aK}(h:Inv m)(ay:m.seq+1<=1073741824):Inv (qS m)/\C5 m (qS m):=by
 have c:=Zq h.wj ay
 have:=c.len h.wj
 have:=h.two
 exact⟨(c.wj h.wj).inv (by omega),c⟩
theorem sum_add(f:Nat->Nat)(a:Nat):∀n,((List.range n).map λi=>f i+if a=i then 1 else 0).sum=((List.range n).map f).sum+if a<n then 1 else 0
 |0=>rfl
 |n+1=>by rw[u2,qt,qt,PS,PS,sum_add f a n];simp only[x1,List.map_nil,List.sum_cons,List.sum_nil];split<;>split<;>split<;>omega
theorem ae0(n:Nat):∀V:List di,(∀x∈V,x.1<n)->((List.range n).map λi=>(V.filter λx=>x.1==i).length).sum=V.length
 |[],_=>by
  have:∀n,((List.range n).map λi=>(([]:List di).filter λx=>x.1==i).length).sum=0:=λn=>by
   induction n with
   |zero=>rfl
   |succ n cq=>rw[u2,qt,PS,cq];rfl
  exact this n
 |x::V,h=>by
  have e:(λi=>((x::V).filter λy=>y.1==i).length)=λi=>(V.filter λy=>y.1==i).length+if x.1=i then 1 else 0:=by
   funext i
   rw[List.filter_cons];by_cases I:x.1=i
   ·simp[I]
   ·simp[I]
  rw[e,sum_add,ae0 n V λy ag=>h y (h9 _ ag),aY (h x (by simp))];rfl
theorem ae1(f:Nat->Nat)(k:Nat):∀n,((List.range n).filter λi=>decide (k<=f i)).length*k<=((List.range n).map f).sum
 |0=>by simp
 |n+1=>by
  have cq:=ae1 f k n;rw[u2,Cw,qt,PS,e9,lr]
  have:([n].filter λi=>decide (k<=f i)).length*k<=([n].map f).sum:=by
   by_cases h:k<=f n
   ·simp[h]
   ·simp[h]
  omega
def p4(V:List di)(i:Nat):Nat:=(V.filter λx=>x.1==i).length
theorem akU{n:Nat}(V:List di){i:Nat}(o:i<n):(h6 n V).getD i 0=(p4 V i:Int):=by rw[List.getD_eq_getElem?_getD,G3 V o];rfl
theorem Zj{k:Int}{n:Nat}{V:List di}{h:Int}{i:Nat}(o:i<n):wg k (h6 n V) h i=true↔0<p4 V i/\(p4 V i:Int)<k/\(i:Int)≠h:=by unfold wg;rw[akU V o];simp only[kH,pJ];omega
theorem VQ{k:Int}{n:Nat}{V:List di}{iF:ao}{h:Int}{g:Nat}(e:r7 k (h6 n V) iF h=some g):g<n/\0<p4 V g/\(p4 V g:Int)<k/\(g:Int)≠h:=by
 unfold r7 at e;rw[DQ]at e;dsimp only at e;split at e
 ·cases e
 ·rename_i cc;cases e;have wc:0<(hx k (h6 n V) h n).length:=V8.2 cc;have ω:=Ni (q1 k (h6 n V) iF (hx k (h6 n V) h n)) (ri k (h6 n V) (hx k (h6 n V) h n)) (eF _) (show 1<=(hx k (h6 n V) h n).length by omega);have hm:=Zh _ (show(hx k (h6 n V) h n).getD (qR (q1 k (h6 n V) iF (hx k (h6 n V) h n)) (ri k (h6 n V) (hx k (h6 n V) h n)) (hx k (h6 n V) h n).length) 0∈hx k (h6 n V) h n by
   rw[List.getD_eq_getElem?_getD,List.getElem?_eq_getElem ω];exact hN ω)
  exact⟨hm.1,(Zj hm.1).1 hm.2⟩
theorem arN{k:Int}{n:Nat}{V:List di}{iF:ao}{h:Int}(e:r7 k (h6 n V) iF h=none){i:Nat}(o:i<n)(cc:(i:Int)≠h):p4 V i=0\/k<=p4 V i:=by
 unfold r7 at e;rw[DQ]at e;dsimp only at e;split at e
 ·rename_i π;by_cases aF:p4 V i=0
  ·exact .inl aF
  ·refine .inr ?_;by_cases hk:(p4 V i:Int)<k
   ·have:i∈hx k (h6 n V) h n:=mO.2 ⟨nF.2 o,(Zj o).2 ⟨by omega,hk,cc⟩⟩
    rw[π]at this;cases this
   ·omega
 ·cases e
structure Xz(m m':aK)(g:di->di):Prop where
 R:m'.R=kg g m.R
 inj:Rn g (used m.R)
 sec:∀x∈used m.R,gO m.k m'.d (g x)=gO m.k m.d x
 s:m'.s=m.s
 k:m'.k=m.k
 clock:m'.clock=m.clock
 seq:m'.seq=m.seq+1
 dl:m'.dl=[]
 nn:m'.used=0
 loose:m'.d.loose=[]
 lB:m'.lB=false
theorem asS{m:aK}(h:nT m)(σ:bs.room m.st 2=false):bs.full m.st=true/\m.st.free.length<=2:=by
 unfold bs.room at σ;simp only[Bool.and_eq_false_iff,Pz,Bool.not_eq_false',Lz]at σ;rcases σ with σ|⟨h1,η⟩
 ·omega
 ·exact⟨h1,by omega⟩
theorem aei{m:aK}(h:bs.full m.st=false\/3<=m.st.free.length):bs.room m.st 2=true:=by
 unfold bs.room;rcases h with h|h
 ·simp[h]
 ·simp;right;omega
theorem LY{m:aK}(h:nT m):(m.s.toNat:Int)=m.s:=by have:=h.gG;omega
theorem aqK{m:aK}(h:xb m){m':aK}(c:C5 m m')(hp:r7 m.k (h6 m.s.toNat (lays (used m.R))) (oG m) m.st.head=none)(an:(iP m.R:Int)+1<=m.cap):4<=m'.st.free.length:=by
 have ψ:=LY h.base;have bL:=h.base.gG;obtain⟨f1,f2,f3⟩:=(lJ bL).1 h.fit;have n0:∀x,x∈lays (used m.R)↔x∈used m.R:=λx=>HY h.ok;have am1:(lays (used m.R)).length=iP m.R:=by rw[<-KW λx=>kt (used m.R) x,HQ (λx I=>rj h.ok x ((kt _ _).1 I)) (xR _)];rfl
 have apa:=ae0 m.s.toNat (lays (used m.R)) λx I=>by have:=f2 x ((n0 x).1 I);omega
 have yV:=ae1 (p4 (lays (used m.R))) m.k.toNat m.s.toNat;have aM:((List.range m.s.toNat).map (p4 (lays (used m.R)))).sum=iP m.R:=apa.trans am1;rw[aM]at yV;generalize ke:((List.range m.s.toNat).filter λi=>decide (m.k.toNat<=p4 (lays (used m.R)) i))=F at yV;have axi:F.length+5<=m.s.toNat:=by
  unfold aK.cap at an;have hk:(m.k.toNat:Int)=m.k:=by omega
  rcases Is (F.length+4) m.s.toNat with h|h
  ·omega
  ·have h1:(m.s-4)*m.k<=(F.length:Int)*m.k:=Io (by omega) (by omega);have η:(F.length:Int)*m.k<=iP m.R:=by
    have:((F.length*m.k.toNat:Nat):Int)<=iP m.R:=by exact_mod_cast yV
    rw[Int.natCast_mul,hk]at this;exact this
   omega
 let MU:=(List.range m.s.toNat).filter λi=>decide (p4 (lays (used m.R)) i=0)&&decide ((i:Int)≠m.st.head)
 have axB:m.s.toNat<=F.length+MU.length+1:=by
  have:=rZ (List.range m.s.toNat) (F++(MU++[m.st.head.toNat])) PJ λi o=>by
   have lg:=nF.1 o;by_cases cc:(i:Int)=m.st.head
   ·simp only[iI,lp];exact .inr (.inr (by omega))
   ·rcases arN hp lg cc with aF|aF
    ·refine iI.2 (.inr (iI.2 (.inl (mO.2 ⟨o,?_⟩))));simp[aF,cc]
    ·refine iI.2 (.inl ?_);rw[<-ke];exact mO.2 ⟨o,bC (by omega)⟩
  simp only[CA,e9,AU]at this;omega
 have b1:MU.length<=m'.st.free.length:=by
  have:=rZ (MU.map λ(i:Nat)=>(i:Int)) m'.st.free (by
   refine PR (S:=λa b=>a≠b) (R:=λa b=>a≠b) _ (λa b h e=>h (by omega)) ?_;exact(PJ (n:=m.s.toNat)).filter _) λx I=>by
   obtain⟨i,o,rfl⟩:=gM.1 I;obtain⟨h1,η⟩:=mO.1 o;simp only[kH,pJ]at η;have lg:=nF.1 h1;refine(c.fr.mem _).2 (.inr ⟨Vf.2 ⟨i,lg,rfl,λz aI e=>?_,η.2⟩,by omega,by rw[h.base.gT];omega,η.2⟩)
   have:=List.length_eq_zero_iff.1 η.1
   have hm:z∈(lays (used m.R)).filter λx=>x.1==i:=mO.2 ⟨aI,by simpa using e⟩;rw[this]at hm;cases hm
  rwa[jP]at this
 omega
theorem Zr{m:aK}(h:Inv m)(ay:m.seq+1<=1073741824)(aF:0<=m.clock):Inv (pv m)/\(∃g,Xz m (pv m) g)/\(bs.room m.st 2=false->(iP m.R:Int)+1<=m.cap->bs.room (pv m).st 2=true):=by
 have ψ:=LY h.base;have bL:=h.gG;obtain⟨f1,f2,f3⟩:=(lJ bL).1 h.fit;unfold pv;cases hp:r7 m.k (h6 m.s.toNat (lays (used m.R))) (oG m) m.st.head with
 |none=>
  obtain⟨o,c⟩:=R5 h ay;refine⟨o,⟨id,by rw[acv];exact c.R,λ_ _ _ _ h=>h,λx I=>c.low.sec (by omega) x,c.s,c.k,c.clock,c.seq,c.dl,c.nn,c.loose,c.lB⟩,λ_ an=>?_⟩
  have:=aqK h.wj c hp an
  exact aei (.inr (by dsimp only;omega))
 |some g=>
  dsimp only;obtain⟨g1,g2,g3,g4⟩:=VQ hp;have T8:∀x,x∈lays (used m.R)↔x∈used m.R:=λx=>HY h.ok;have h8:∀x,x∈fe m g↔x∈used m.R/\x.1=g:=λx=>by unfold fe;rw[mO,T8,pJ];exact⟨λ⟨a,b⟩=>⟨a,by omega⟩,λ⟨a,b⟩=>⟨a,by omega⟩⟩
  have KN:(fe m g).Nodup:=(KX _).filter _;have oV:(fe m g).length=p4 (lays (used m.R)) g:=by
   unfold fe p4;congr 1;apply List.filter_congr;intro x _;by_cases e:x.1=g
   ·rw[bC (by omega)];symm;simpa using e
   ·rw[iJ (by omega)];symm;simpa using e
  have dw:=Sf (fe m g) m (used m.R) h.base h.xl h.IN (λx I=>((h8 x).1 I).1) f2 (.inl ⟨h.two,by omega⟩);generalize HK:fe m g=xs at dw h8 KN oV;generalize axz:hT m xs=q at dw⊢;obtain⟨HW,ys⟩:=q;dsimp only at dw⊢;have wb:∀y∈ys,y∉used m.R/\gS y:=λy ag=>⟨dw.new y ag,by have:=dw.lt y ag;unfold gS;omega⟩;obtain⟨abu,f,aM,bz,gw,iS⟩:=Vj xs ys m.R KN dw.lo dw.len (λx I=>((h8 x).1 I).1) wb;have Om:∀x∈xs,f x∈ys:=λx I=>by rw[gw];exact gM.2 ⟨x,I,rfl⟩
  have UB:∀z,z∈used (ln m.R xs ys)↔∃w∈used m.R,f w=z:=λz=>by rw[aM,QK,gM]
  have nc:∀z∈used (ln m.R xs ys),z∈ys\/(z∈used m.R/\z∉xs):=λz aI=>by
   obtain⟨w,hw,rfl⟩:=(UB z).1 aI;by_cases I:w∈xs
   ·exact .inl (Om w I)
   ·rw[bz w hw I];exact .inr ⟨hw,I⟩
  have Kq:xb {HW with R:=ln m.R xs ys}:=by
   refine⟨⟨dw.base.gG,dw.base.e8,dw.base.gT,dw.base.blocks⟩,⟨dw.dev.dev,dw.dev.off,dw.dev.after,dw.dev.mA⟩,?_,?_,?_,?_,?_,?_,?_,?_,?_⟩
   ·dsimp only;rw[aM];unfold kg;rw[jP];exact h.len
   ·dsimp only;intro e he;refine Pg (λq ay=>?_) (Gb f1 e he);cases q with
    |none=>trivial
    |some z=>
     rcases nc z (wi.2 ⟨e,he,ay⟩)with aI|aI
     ·exact(wb z aI).2
     ·exact rj h.ok z aI.1
   ·dsimp only;rw[dw.s,dw.k];refine(lJ bL).2 ⟨Gb f1,λz aI=>?_,by rw[aM,aci iS];exact f3⟩;rcases nc z aI with aI|aI
    ·exact dw.lt z aI
    ·exact f2 z aI.1
   ·dsimp only;refine⟨λz aI=>dw.ok.free z ?_,λz aI=>dw.ok.head z ?_⟩
    ·rcases nc z aI with aI|aI
     ·exact iI.2 (.inl aI)
     ·exact iI.2 (.inr aI.1)
    ·rcases nc z aI with aI|aI
     ·exact iI.2 (.inl aI)
     ·exact iI.2 (.inr aI.1)
   ·dsimp only;rw[dw.ot,dw.s];exact h.ot
   ·dsimp only;rw[dw.clock];exact dw.qz h.qz aF
   ·dsimp only;rw[dw.dl];exact h.dl
   ·dsimp only;rw[dw.nn];exact h.nn
   ·dsimp only;rw[dw.seq];exact h.seq
  have ao2:HW.seq+1<=1073741824:=by rw[dw.seq];exact ay
  have c:=Zq Kq ao2;obtain⟨cf,rU⟩:∃x,x∈xs:=by
   cases xs with
   |nil=>simp at oV;omega
   |cons a l=>exact⟨a,om⟩
  have aba:(g:Int)∉m.st.free:=by
   have:=h.free cf ((h8 cf).1 rU).1
   rwa[((h8 cf).1 rU).2]at this
  have Uf:∀{a:Int},a=m.st.head\/a∈m.st.free->a≠g:=λaP e=>by
   rcases aP with aP|aP
   ·exact g4 (by omega)
   ·exact aba (e▸aP)
  have an6:(g:Int)∈(qS {HW with R:=ln m.R xs ys}).st.free:=by
   refine(c.fr.mem _).2 (.inr ⟨Vf.2 ⟨g,by dsimp only;rw[dw.s];exact g1,rfl,λz aI e=>?_,λe=>Uf dw.head e.symm⟩,by omega,by dsimp only;rw[dw.base.gT,dw.s];omega,λe=>Uf dw.head e.symm⟩);rcases nc z ((HY Kq.ok).1 aI)with aI|aI
   ·exact Uf (dw.aes z aI) (by omega)
   ·exact aI.2 ((h8 z).2 ⟨aI.1,e⟩)
  have apg:2<=(qS {HW with R:=ln m.R xs ys}).st.free.length:=by
   have oT:((g:Int)::HW.st.free).Nodup:=LK.2 ⟨λhm=>aba (dw.sub _ hm),aee dw.base.e8.FQ⟩
   have:=rZ _ (qS {HW with R:=ln m.R xs ys}).st.free oT λx I=>by
    rcases fE.1 I with rfl|I
    ·exact an6
    ·exact(c.fr.mem _).2 (.inl I)
   have bf:=dw.fZ;simp only[List.length_cons]at this;omega
  refine⟨(c.wj Kq).inv apg,⟨f,c.R.trans aM,iS,λx I=>?_,c.s.trans dw.s,c.k.trans dw.k,c.clock.trans dw.clock,?_,c.dl,c.nn,c.loose,c.lB⟩,λσ an=>?_⟩
  ·have ny:=c.low.sec (k:=m.k) (by omega) (f x);rw[ny];dsimp only;by_cases xJ:x∈xs
   ·have l5:=dw.sec;rw[gw,CD]at l5
    have:=List.map_inj_left.1 l5 x xJ
    exact this
   ·rw[bz x I xJ];exact dw.old x (f2 x I) λhm=>dw.new x hm I
  ·have:=c.seq
   dsimp only at this;rw[this,dw.seq]
  ·have yV:=(asS h.base σ).1;have abx:=dw.acN (.inl ⟨yV,λe=>by rw[e]at rU;cases rU⟩);refine aei (.inl ?_);unfold bs.full at abx⊢;rw[c.fr.head,c.fr.used,c.fr.blocks];exact abx
theorem BH:qJ 0:=⟨by decide,by decide⟩
theorem ald{i:Nat}(o:i<8){s:Int}(ψ:1<=s/\s<=32):h4 ⟨1,i,0,s,0,0⟩=0:=by simp[h4,dB.jn,oa,td,tc,rX,rY];omega
theorem ale{v:Int}(aL:0<=v/\v<8):h4 ⟨2,v,0,0,0,0⟩=0:=by simp[h4,dB.jn,oa,td,tc,rX,rY];omega
theorem alf{v:Int}(aL:0<=v/\v<8){i:Nat}(o:i<8)(cc:(i:Int)≠v):h4 ⟨3,v,i,0,0,0⟩=0:=by simp[h4,dB.jn,oa,td,tc,rX,rY];omega
theorem alg{v b:Int}(aL:0<=v/\v<8)(ω:0<=b/\b<32){x:di}(I:gS x):h4 ⟨4,v,0,b,x.1,x.2⟩=0:=by have h1:=I.1;have η:=I.2;simp[h4,dB.jn,oa,td,tc,rX,rY,whole];omega
theorem alh{v b:Int}(aL:0<=v/\v<8)(ω:0<=b/\b<32):h4 ⟨5,v,0,b,0,0⟩=0:=by simp[h4,dB.jn,oa,td,tc,rX,rY];omega
theorem aeE{e:fL}(h:qM e)(b:Nat)(q:eg):qM (e.1,e.2.1,e.2.2.set b q):=⟨by show((e.2.2.set b q).length:Int)=_;rw[jB];exact h.1,h.2.1,h.2.2.1,h.2.2.2⟩
theorem P8{R:bW}{v:Nat}{e:fL}(h:R[v]?=some e)(b:Nat)(q:eg):jD R v b q=R.set v (e.1,e.2.1,e.2.2.set b q):=by unfold jD;rw[h]
structure yo(m:aK)(n:Nat):Prop where
 seq:m.seq<=n
 clock:0<=m.clock/\m.clock<=n
 dl:m.dl.length<=n
 loose:m.d.loose.length<=n
theorem yo.more{m:aK}{n fk:Nat}(h:yo m n)(ar:n<=fk):yo m fk:=⟨by have:=h.seq;omega,by have:=h.clock;omega,by have:=h.dl;omega,by have:=h.loose;omega⟩
theorem at7{m:aK}(h:Inv m):Inv (tick m):=⟨h.gG,h.len,h.ok,h.fit,h.e8,h.gT,h.blocks,h.two,h.free,h.head,h.dev,h.off,h.after,h.mA,h.ot,λt aO=>by have:=h.qz t aO;show 0<=t/\t<=m.clock+1;omega,h.dl,h.nn,h.seq⟩
theorem at6{m:aK}{n:Nat}(h:yo m n):yo (tick m) (n+1):=⟨by have:=h.seq;show m.seq<=_;omega,by have:=h.clock;show 0<=m.clock+1/\m.clock+1<=_;omega,by have:=h.dl;show m.dl.length<=_;omega,by have:=h.loose;show m.d.loose.length<=_;omega⟩
theorem ae2{m:aK}(h:Inv m)(ay:m.seq+1<=1073741824):Inv (x9 m)/\(x9 m).R=m.R/\iK m.d (x9 m).d/\(x9 m).s=m.s/\(x9 m).k=m.k/\(∀n,yo m n->yo (x9 m) (n+1)):=by
 unfold x9;split
 ·exact⟨h,rfl,iK.refl h.dev,rfl,rfl,λn bf=>bf.more (by omega)⟩
 ·split
  ·obtain⟨o,c⟩:=R5 h ay;exact⟨o,c.R,c.low,c.s,c.k,λn bf=>⟨by rw[c.seq];have:=bf.seq;omega,by rw[c.clock];have:=bf.clock;omega,by rw[c.dl];exact da _,by rw[c.loose];exact da _⟩⟩
  ·rename_i hlen;have hp:m.used+j9 m.dl.length<=16:=by have:=h.nn;unfold j9;omega
   have an:iK m.d (kV (CJ (kV m.d) m.seq m.used m.dl)):=iK.flush (aeJ (iK.flush (iK.refl h.dev)) (E3 h.base h.xl) m.seq h.dl hp);refine⟨⟨h.gG,h.len,h.ok,h.fit,h.e8,h.gT,h.blocks,h.two,h.free,h.head,an.e8,an.off.trans h.off,an.after.trans h.after,?_,h.ot,h.qz,(λd ae=>by cases ae),hp,h.seq⟩,rfl,an,rfl,rfl,λn bf=>⟨by have:=bf.seq;show m.seq<=_;omega,by have:=bf.clock;show 0<=m.clock/\m.clock<=_;omega,da _,da _⟩⟩;dsimp only;rw[an.len];exact h.mA
theorem aib{m:aK}(h:Inv m){v b:Int}{e:fL}(he:gd m.R v=some e)(hk:e.1≠2)(ω:0<=b/\b<e.2.1){bF:ao}(ψ:bh.kP bF)(an:(iP m.R:Int)+1<=m.cap)(σ:bs.room m.st 2=true):
  MY m (ga m bF 2).1 (ga m bF 2).2 bF (used m.R)/\Inv (o2 {(ga m bF 2).1 with R:=jD m.R v.toNat b.toNat (some (ga m bF 2).2)} ⟨4,v,0,b,(ga m bF 2).2.1,(ga m bF 2).2.2⟩):=by
 have dI:=Ps h.base h.IN (show(0:Int)<=2 by decide) σ bF;refine⟨dI,?_⟩;generalize hp:(ga m bF 2).1=m1 at dI⊢;generalize ag:(ga m bF 2).2=x at dI⊢;obtain⟨v0,bg,aL,Hw⟩:=Ah he;obtain⟨f1,f2,f3⟩:=(lJ h.gG).1 h.fit;have ed:=f1 e (eS aL);have lM:=P8 aL b.toNat (some x);have I:gS x:=by have:=dI.lt;have:=h.gG;unfold gS;omega
 have ji:∀z∈used (jD m.R v.toNat b.toNat (some x)),z∈used m.R\/z=x:=λz aI=>by
  rw[lM]at aI;rcases ahD aI with h1|h1
  ·exact .inl h1
  ·rcases pH h1 with η|η
   ·exact .inl (wi.2 ⟨e,eS aL,η⟩)
   ·cases η;exact .inr rfl
 have ae:=dI.dev h.base h.xl ψ;have hC:∀z∈used (jD m.R v.toNat b.toNat (some x)),z∈x::used m.R:=λz aI=>by
  rcases ji z aI with h1|h1
  ·exact h9 _ h1
  ·rw[h1];exact om
 have aaG:lE (jD m.R v.toNat b.toNat (some x)):=λc6 dO=>by
  rw[lM]at dO;rcases pH dO with h1|rfl
  ·exact f1 c6 h1
  ·exact aeE ed _ _
 have bQ:∀z∈used (jD m.R v.toNat b.toNat (some x)),(z.1:Int)<m.s/\(z.2:Int)<m.k:=λz aI=>by
  rcases ji z aI with h1|h1
  ·exact f2 z h1
  ·rw[h1];exact dI.lt
 have axq:e.2.1<33:=(ed.2.2.2 Hw).2;refine⟨dI.base.gG,by show(jD m.R v.toNat b.toNat (some x)).length=8;rw[aev];exact h.len,λc6 dO=>Pg (λq ay=>?_) (aaG c6 dO),?_,dI.base.e8,dI.base.gT,dI.base.blocks,?_,λz aI=>dI.ok.free z (hC z aI),λz aI=>dI.ok.head z (hC z aI),ae.dev,ae.off,ae.after,ae.mA,?_,?_,?_,?_,?_⟩
 ·cases q with
  |none=>trivial
  |some z=>
   have:=bQ z (wi.2 ⟨c6,dO,ay⟩)
   have:=h.gG
   show gS z;unfold gS;omega
 ·show lV m1.s m1.k _;rw[dI.s,dI.k]
  have:=ap5 ji
  refine(lJ h.gG).2 ⟨aaG,bQ,?_⟩;unfold aK.cap at an;show(iP (jD m.R v.toNat b.toNat (some x)):Int)<=_;omega
 ·show 2<=m1.st.free.length;rcases dI.fZ with⟨g1,g2,g3⟩|⟨g1,g2,g3⟩
  ·have:2<m.st.free.length:=by
    unfold bs.room at σ;rw[g1]at σ;simp at σ;omega
   omega
  ·rw[g2];exact h.two
 ·show m1.stamps.length=m1.s.toNat;rw[dI.stamps,jB,dI.s];exact h.ot
 ·show∀t∈m1.stamps,0<=t/\t<=m1.clock;rw[dI.stamps,dI.clock];intro t aO;rcases pH aO with h1|rfl
  ·exact h.qz t h1
  ·have an:0<m.stamps.length:=by rw[h.ot];have:=h.gG;omega
   have:=h.qz m.stamps[0] (hN an)
   omega
 ·show∀d∈m1.dl++[_],d.wf/\h4 d=0;rw[dI.dl];exact ZF h ⟨⟨by show(0:Int)<=x.1;omega,by have:=I.1;show(x.1:Int)<256;omega⟩,⟨by show(0:Int)<=x.2;omega,by have:=I.2;show(x.2:Int)<256;omega⟩⟩ (alg ⟨v0,bg⟩ ⟨ω.1,by omega⟩ I)
 ·show m1.used<=16;rw[dI.nn];exact h.nn
 ·show 1<=m1.seq;rw[dI.seq];exact h.seq
structure MV(m:aK)(r:aK×gQ):Prop where
 inv:Inv r.1
 bad:r.2.e≠0->r.1=m
 s:r.1.s=m.s
 k:r.1.k=m.k
 fZ:∀n,yo m n->yo r.1 (n+1)
theorem alu{m:aK}(h:Inv m)(ay:m.seq+1<=1073741824){a:Ask}(aP:∀x∈a.bF,0<=x/\x<256):MV m (eN m a):=by
 obtain⟨f1,f2,f3⟩:=(lJ h.gG).1 h.fit;have same:∀(e:Int),MV m (fail m e):=λe=>⟨h,λ_=>rfl,rfl,rfl,λn bf=>bf.more (by omega)⟩;have plain:∀r:gQ,MV m (m,r):=λr=>⟨h,λ_=>rfl,rfl,rfl,λn bf=>bf.more (by omega)⟩;have O5:∀(i:Nat)(e:fL)(d:fC)(r:gQ),r.e=0->qM e->(∀x,some x∈e.2.2->x∈used m.R)->d.wf->h4 d=0->MV m (o2 {m with R:=m.R.set i e} d,r):=by intro i e d r σ ed nc hw π;exact⟨h.set ⟨rfl,rfl,rfl,rfl,rfl,rfl,rfl,rfl⟩ rfl ed nc (ZF h hw π),λar=>absurd σ ar,rfl,rfl,λn bf=>⟨by have:=bf.seq;show m.seq<=_;omega,by have:=bf.clock;show 0<=m.clock/\m.clock<=_;omega,by have:=bf.dl;show(m.dl++[d]).length<=_;rw[e9];simp;omega,by have:=bf.loose;show m.d.loose.length<=_;omega⟩⟩
 unfold eN;split
 ·split
  ·rename_i ψ;cases mF:ly m.R with
   |none=>exact same 7
   |some i=>
    have o:=(P9 h.len mF).1;refine O5 i _ _ _ rfl ⟨?_,?_,?_,?_⟩ (λx I=>?_) ⟨BH,BH⟩ (ald o ψ)
    ·show((List.replicate a.s.toNat none).length:Int)=a.s;rw[sf];omega
    ·exact⟨by dsimp only;omega,by dsimp only;omega⟩
    ·exactλe=>by cases e
    ·exactλ_=>by dsimp only;omega
    ·have:=u0 I;cases this
  ·exact same 5
 split
 ·cases he:gd m.R a.v with
  |none=>exact same 4
  |some e=>
   obtain⟨v0,bg,aL,hk⟩:=Ah he;exact O5 a.v.toNat (0,0,[]) _ _ rfl ⟨rfl,⟨by decide,by decide⟩,λ_=>rfl,λe=>absurd rfl e⟩ (λx I=>by cases I) ⟨BH,BH⟩ (ale ⟨v0,bg⟩)
 split
 ·cases he:gd m.R a.v with
  |none=>exact same 4
  |some e=>
   obtain⟨v0,bg,aL,hk⟩:=Ah he;cases mF:ly m.R with
   |none=>exact same 7
   |some i=>
    obtain⟨o,hI,TW,Hw⟩:=P9 h.len mF;have ed:=f1 e (eS aL);refine O5 i (2,e.2.1,e.2.2) _ _ rfl ⟨ed.1,⟨by dsimp only;omega,by dsimp only;omega⟩,(λe=>by cases e),λ_=>ed.2.2.2 hk⟩ (λx I=>wi.2 ⟨e,eS aL,I⟩) ⟨BH,BH⟩ (alf ⟨v0,bg⟩ o λei=>?_)
    have:a.v.toNat=i:=by omega
    rw[this,TW]at aL;cases aL;exact hk Hw
 split
 ·cases he:gd m.R a.v with
  |none=>exact same 4
  |some e=>
   dsimp only;split
   ·exact same 5
   ·split
    ·exact plain _
    ·exact plain _
 split
 ·unfold I8;cases he:gd m.R a.v with
  |none=>exact same 4
  |some e=>
   dsimp only;split
   ·exact same 8
   split
   ·exact same 5
   split
   ·exact same 6
   split
   ·exact same 9
   split
   ·exact same 12
   ·rename_i η ω an π σ;have ψ:bh.kP a.bF:=⟨by omega,aP⟩;obtain⟨dI,o⟩:=aib h he η (b:=a.b) (by omega) ψ (by omega) (by simpa using σ);refine⟨o,λar=>absurd rfl ar,dI.s,dI.k,λn bf=>⟨?_,?_,?_,?_⟩⟩
    ·show(ga m a.bF 2).1.seq<=_;rw[dI.seq];have:=bf.seq;omega
    ·show 0<=(ga m a.bF 2).1.clock/\(ga m a.bF 2).1.clock<=_;rw[dI.clock];have:=bf.clock;omega
    ·show((ga m a.bF 2).1.dl++[_]).length<=_;rw[dI.dl,e9];have:=bf.dl;simp;omega
    ·show(ga m a.bF 2).1.d.loose.length<=_;rw[dI.d];show(m.d.loose++[_]).length<=_;rw[e9];have:=bf.loose;simp;omega
 split
 ·cases he:gd m.R a.v with
  |none=>exact same 4
  |some e=>
   dsimp only;split
   ·exact same 8
   split
   ·exact same 5
   ·rename_i η ω;obtain⟨v0,bg,aL,hk⟩:=Ah he;have ed:=f1 e (eS aL);have xu:=(ed.2.2.2 hk).2;rw[P8 aL];refine O5 a.v.toNat _ _ _ rfl (aeE ed _ _) (λx I=>?_) ⟨BH,BH⟩ (alh ⟨v0,bg⟩ (by omega));rcases pH I with I|I
    ·exact wi.2 ⟨e,eS aL,I⟩
    ·cases I
 split
 ·obtain⟨g1,g2,g3,g4,g5,g6⟩:=ae2 h ay;exact⟨g1,λar=>absurd rfl ar,g4,g5,g6⟩
 split
 ·exact plain _
 ·cases he:gd m.R a.v with
  |none=>exact same 4
  |some e=>exact plain _
abbrev C4:=Nat×ao
abbrev mU:=Int×Int×List (Option C4)
structure eC where
 s:Int
 k:Int
 E:List mU
 n:Nat
def nA(E:List mU):List C4:=E.flatMap λe=>e.2.2.filterMap id
def xO(f:Nat->di)(E:List mU):bW:=E.map λe=>(e.1,e.2.1,e.2.2.map (Option.map λx=>f x.1))
def y8(E:List mU):Nat:=(gB ((nA E).map λx=>(x.1,0))).length
def ih(E:List mU)(v:Int):Option mU:=if 0<=v/\v<8 then(E[v.toNat]?).filter λe=>decide (e.1≠0)else none
def CI(E:List mU):Option Nat:=E.findIdx? λe=>decide (e.1=0)
def eC.cap(A:eC):Int:=(A.s-4)*A.k
def IJ(E:List mU)(v b:Nat)(q:Option C4):List mU:=match E[v]?with
 |some e=>E.set v (e.1,e.2.1,e.2.2.set b q)
 |none=>E
def nw(A:eC)(e:Int):eC×gQ:=(A,⟨e,0,[],[]⟩)
def kc(A:eC)(a:Ask):eC×gQ:=
 if a.k=1 then
  (if 1<=a.s/\a.s<=32 then(match CI A.E with
   |none=>nw A 7
   |some i=>({A with E:=A.E.set i (1,a.s,List.replicate a.s.toNat none)},{hW with id:=i}))else nw A 5)
 else if a.k=2 then(match ih A.E a.v with
  |none=>nw A 4
  |some _=>({A with E:=A.E.set a.v.toNat (0,0,[])},hW))
 else if a.k=3 then(match ih A.E a.v with
  |none=>nw A 4
  |some e=>(match CI A.E with
   |none=>nw A 7
   |some i=>({A with E:=A.E.set i (2,e.2.1,e.2.2)},{hW with id:=i})))
 else if a.k=4 then(match ih A.E a.v with
  |none=>nw A 4
  |some e=>if a.b<0\/e.2.1<=a.b then nw A 5 else(match(e.2.2[a.b.toNat]?).join with
   |none=>(A,{hW with bF:=bh.hR})
   |some x=>(A,{hW with bF:=x.2})))
 else if a.k=5 then(match ih A.E a.v with
  |none=>nw A 4
  |some e=>
   if e.1=2 then nw A 8
   else if a.b<0\/e.2.1<=a.b then nw A 5
   else if a.bF.length≠64 then nw A 6
   else if A.cap<(y8 A.E:Int)+1 then nw A 9
   else({A with E:=IJ A.E a.v.toNat a.b.toNat (some (A.n,a.bF)),n:=A.n+1},hW))
 else if a.k=6 then(match ih A.E a.v with
  |none=>nw A 4
  |some e=>if e.1=2 then nw A 8 else if a.b<0\/e.2.1<=a.b then nw A 5
   else({A with E:=IJ A.E a.v.toNat a.b.toNat none},hW))
 else if a.k=7 then(A,hW)
 else if a.k=8 then(A,{hW with j8:=[(y8 A.E:Int),A.cap]})
 else(match ih A.E a.v with
  |none=>nw A 4
  |some e=>(A,{hW with j8:=[e.1,e.2.1]}))
structure jI(m:aK)(A:eC)(f:Nat->di):Prop where
 s:A.s=m.s
 k:A.k=m.k
 R:m.R=xO f A.E
 inj:∀x∈nA A.E,∀y∈nA A.E,f x.1=f y.1->x.1=y.1
 sec:∀x∈nA A.E,gO m.k m.d (f x.1)=x.2
 lt:∀x∈nA A.E,x.1<A.n
theorem AI{E:List mU}{x:C4}:x∈nA E↔∃e∈E,some x∈e.2.2:=by
 unfold nA;rw[pc];constructor
 ·rintro⟨e,h,k⟩;obtain⟨a,aP,bz⟩:=u3.1 k;cases a with
  |none=>cases bz
  |some y=>cases bz;exact⟨e,h,aP⟩
 ·rintro⟨e,h,k⟩;exact⟨e,h,u3.2 ⟨_,k,rfl⟩⟩
theorem W2(f:Nat->di)(E:List mU):used (xO f E)=(nA E).map λx=>f x.1:=by
 unfold used xO nA;rw[List.flatMap_map,List.map_flatMap];congr 1
 funext e
 unfold pU;dsimp only
 induction e.2.2 with
 |nil=>rfl
 |cons q l cq=>cases q with|none=>simpa using cq|some x=>simpa using cq
theorem aqN{α:Type}(f g:α->di):∀(l:List α),(∀x∈l,∀y∈l,f x=f y↔g x=g y)->(gB (l.map f)).length=(gB (l.map g)).length:=by
 intro l h;have key:∀(f g:α->di),(∀x∈l,∀y∈l,f x=f y->g x=g y)->(gB (l.map g)).length<=(gB (l.map f)).length:=by
  intro f g h;have hw:∀z∈gB (l.map f),∃x∈l,f x=z:=λz aI=>gM.1 ((kt _ _).1 aI);have aol:∀k5:List di,(∀z∈k5,∃x∈l,f x=z)->∃ws:List di,ws.length=k5.length/\∀x∈l,f x∈k5->g x∈ws:=by
   intro k5
   induction k5 with
   |nil=>exactλ_=>⟨[],rfl,λx _ h=>by cases h⟩
   |cons z k5 cq=>
    intro aI;obtain⟨ws,h1,η⟩:=cq λy ag=>aI y (h9 _ ag);obtain⟨cf,rU,hI⟩:=aI z (by simp);refine⟨g cf::ws,by simp[h1],λx I hm=>?_⟩;rcases fE.1 hm with e|hm
    ·rw[h x I cf rU (by rw[e,hI])];exact om
    ·exact h9 _ (η x I hm)
  obtain⟨ws,h1,η⟩:=aol _ hw;rw[<-h1];refine rZ _ _ (xR _) λz aI=>?_;obtain⟨x,I,rfl⟩:=gM.1 ((kt _ _).1 aI);exact η x I ((kt _ _).2 (gM.2 ⟨x,I,rfl⟩))
 exact Nat.le_antisymm (key g f λx I y ag e=>(h x I y ag).2 e) (key f g λx I y ag e=>(h x I y ag).1 e)
theorem jI.live{m:aK}{A:eC}{f:Nat->di}(h:jI m A f):y8 A.E=iP m.R:=by unfold y8 iP;rw[h.R,W2];refine aqN _ _ _ λx I y ag=>⟨λe=>by have:=gN Prod.fst e;dsimp only at this;rw[this],λe=>by rw[h.inj x I y ag e]⟩
theorem jI.cap{m:aK}{A:eC}{f:Nat->di}(h:jI m A f):A.cap=m.cap:=by unfold eC.cap aK.cap;rw[h.s,h.k]
theorem jI.get{m:aK}{A:eC}{f:Nat->di}(h:jI m A f)(i:Nat):m.R[i]?=(A.E[i]?).map λe=>(e.1,e.2.1,e.2.2.map (Option.map λx=>f x.1)):=by rw[h.R];unfold xO;rw[List.getElem?_map]
theorem jI.jL{m:aK}{A:eC}{f:Nat->di}(h:jI m A f)(v:Int):gd m.R v=(ih A.E v).map λe=>(e.1,e.2.1,e.2.2.map (Option.map λx=>f x.1)):=by
 unfold gd ih;split
 ·rw[h.get];cases A.E[v.toNat]?with
  |none=>rfl
  |some e=>
   rw[jd,LL,LL];dsimp only;split<;>rfl
 ·rfl
theorem jI.spare{m:aK}{A:eC}{f:Nat->di}(h:jI m A f):ly m.R=CI A.E:=by unfold ly CI;rw[h.R];unfold xO;rw[List.findIdx?_map];rfl
theorem ab2{E:List mU}{i:Nat}{e:mU}{x:C4}(h:x∈nA (E.set i e)):x∈nA E\/some x∈e.2.2:=by
 obtain⟨a,aP,I⟩:=AI.1 h;rcases pH aP with aP|rfl
 ·exact .inl (AI.2 ⟨a,aP,I⟩)
 ·exact .inr I
theorem jI.set{m m':aK}{A:eC}{f:Nat->di}(h:jI m A f)(ψ:m'.s=m.s)(hk:m'.k=m.k)(ae:m'.d=m.d)(i:Nat)(e:mU)(nc:∀x,some x∈e.2.2->x∈nA A.E)(ix:m'.R=m.R.set i (e.1,e.2.1,e.2.2.map (Option.map λx=>f x.1))):jI m' {A with E:=A.E.set i e} f:=by
 have ji:∀x∈nA (A.E.set i e),x∈nA A.E:=λx I=>by
  rcases ab2 I with h1|h1
  ·exact h1
  ·exact nc x h1
 refine⟨h.s.trans ψ.symm,h.k.trans hk.symm,?_,λx I y ag=>h.inj x (ji x I) y (ji y ag),λx I=>?_,λx I=>h.lt x (ji x I)⟩
 ·rw[ix,h.R];unfold xO;dsimp only;rw[q6]
 ·rw[hk,ae];exact h.sec x (ji x I)
theorem aeu{E:List mU}{v:Nat}{e:mU}(h:E[v]?=some e)(b:Nat)(q:Option C4):IJ E v b q=E.set v (e.1,e.2.1,e.2.2.set b q):=by unfold IJ;rw[h]
theorem NO{E:List mU}{v:Int}{e:mU}(h:ih E v=some e):0<=v/\v<8/\E[v.toNat]?=some e/\e.1≠0:=by
 unfold ih at h;split at h
 ·rename_i aL;cases σ:E[v.toNat]?with
  |none=>rw[σ]at h;simp at h
  |some x=>
   rw[σ,LL]at h;split at h
   ·cases h;rename_i hk;exact⟨aL.1,aL.2,rfl,cd hk⟩
   ·cases h
 ·cases h
theorem jI.same{m m':aK}{A:eC}{f:Nat->di}(h:jI m A f)(ω:nT m)(ψ:m'.s=m.s)(hk:m'.k=m.k)(ae:iK m.d m'.d)(ix:m'.R=m.R):jI m' A f:=
 ⟨h.s.trans ψ.symm,h.k.trans hk.symm,ix.trans h.R,h.inj,λx I=>by rw[hk,ae.sec (by have:=ω.gG;omega)];exact h.sec x I,h.lt⟩
theorem jI.clean{m m':aK}{A:eC}{f:Nat->di}{g:di->di}(h:jI m A f)(c:Xz m m' g):jI m' A (g∘f):=by
 have hu:∀x∈nA A.E,f x.1∈used m.R:=λx I=>by rw[h.R,W2];exact gM.2 ⟨x,I,rfl⟩
 refine⟨h.s.trans c.s.symm,h.k.trans c.k.symm,?_,λx I y ag e=>h.inj x I y ag (c.inj _ (hu x I) _ (hu y ag) e),λx I=>?_,h.lt⟩
 ·rw[c.R,h.R];unfold kg xO;rw[CD];congr 1
  funext e
  simp[Option.map_map,Function.comp_def]
 ·rw[c.k];exact(c.sec _ (hu x I)).trans (h.sec x I)
theorem atm{m:aK}(h:Inv m)(ay:m.seq+1<=1073741824){A:eC}{f:Nat->di}(ψ:jI m A f){a:Ask}(aP:∀x∈a.bF,0<=x/\x<256):
  ((eN m a).2.e=12/\bs.room m.st 2=false/\(iP m.R:Int)+1<=m.cap)\/((eN m a).2.e≠12/\(eN m a).2=(kc A a).2/\∃ij,jI (eN m a).1 (kc A a).1 ij):=by
 have bad:∀e:Int,e≠12->((fail m e).2.e=12/\bs.room m.st 2=false/\(iP m.R:Int)+1<=m.cap)\/((fail m e).2.e≠12/\(fail m e).2=(nw A e).2/\∃ij,jI (fail m e).1 (nw A e).1 ij):=λe he=>.inr ⟨he,rfl,f,ψ⟩;have ok:∀(m':aK)(C0:eC)(r:gQ)(ij:Nat->di),r.e=0->jI m' C0 ij->(((m',r):aK×gQ).2.e=12/\bs.room m.st 2=false/\(iP m.R:Int)+1<=m.cap)\/(((m',r):aK×gQ).2.e≠12/\((m',r):aK×gQ).2=((C0,r):eC×gQ).2/\∃ij,jI ((m',r):aK×gQ).1 ((C0,r):eC×gQ).1 ij):=λm' C0 r ij σ ed=>.inr ⟨by dsimp only;omega,rfl,ij,ed⟩;unfold eN kc;by_cases h1:a.k=1
 ·rw[aY h1,aY h1];by_cases aI:1<=a.s/\a.s<=32
  ·rw[aY aI,aY aI,ψ.spare];cases mF:CI A.E with
   |none=>exact bad 7 (by decide)
   |some i=>
    refine ok _ _ _ f rfl (ψ.set (m':=o2 {m with R:=m.R.set i (1,a.s,List.replicate a.s.toNat none)} ⟨1,i,0,a.s,0,0⟩) rfl rfl rfl i (1,a.s,List.replicate a.s.toNat none) (λx I=>by have:=u0 I;cases this) ?_);show m.R.set i _=m.R.set i _;rw[Ly];rfl
  ·rw[aN aI,aN aI];exact bad 5 (by decide)
 rw[aN h1,aN h1];by_cases η:a.k=2
 ·rw[aY η,aY η,ψ.jL];cases he:ih A.E a.v with
  |none=>exact bad 4 (by decide)
  |some e=>exact ok _ _ _ f rfl (ψ.set (m':=o2 {m with R:=m.R.set a.v.toNat (0,0,[])} ⟨2,a.v,0,0,0,0⟩) rfl rfl rfl a.v.toNat (0,0,[]) (λx I=>by cases I) rfl)
 rw[aN η,aN η];by_cases au:a.k=3
 ·rw[aY au,aY au,ψ.jL];cases he:ih A.E a.v with
  |none=>exact bad 4 (by decide)
  |some e=>
   obtain⟨v0,bg,aL,hk⟩:=NO he;rw[jd];dsimp only;rw[ψ.spare];cases mF:CI A.E with
   |none=>exact bad 7 (by decide)
   |some i=>exact ok _ _ _ f rfl (ψ.set (m':=o2 {m with R:=m.R.set i (2,e.2.1,e.2.2.map (Option.map λx=>f x.1))} ⟨3,a.v,i,0,0,0⟩) rfl rfl rfl i (2,e.2.1,e.2.2) (λx I=>AI.2 ⟨e,eS aL,I⟩) rfl)
 rw[aN au,aN au];by_cases bV:a.k=4
 ·rw[aY bV,aY bV,ψ.jL];cases he:ih A.E a.v with
  |none=>exact bad 4 (by decide)
  |some e=>
   obtain⟨v0,bg,aL,hk⟩:=NO he;rw[jd];dsimp only;by_cases ω:a.b<0\/e.2.1<=a.b
   ·rw[aY ω,aY ω];exact bad 5 (by decide)
   ·rw[aN ω,aN ω,List.getElem?_map];cases ay:e.2.2[a.b.toNat]?with
    |none=>exact ok _ _ _ f rfl ψ
    |some q=>
     cases q with
     |none=>exact ok _ _ _ f rfl ψ
     |some x=>
      have l5:=ψ.sec x (AI.2 ⟨e,eS aL,eS ay⟩);refine .inr ⟨(by show(0:Int)≠12;decide),?_,f,ψ⟩;show({hW with bF:=gO m.k m.d (f x.1)}:gQ)={hW with bF:=x.2};rw[l5]
 rw[aN bV,aN bV];by_cases c9:a.k=5
 ·rw[aY c9,aY c9];unfold I8;rw[ψ.jL];cases he:ih A.E a.v with
  |none=>exact bad 4 (by decide)
  |some e=>
   obtain⟨v0,bg,aL,hk⟩:=NO he;have anV:gd m.R a.v=some (e.1,e.2.1,e.2.2.map (Option.map λx=>f x.1)):=by rw[ψ.jL,he];rfl
   rw[jd];dsimp only;by_cases g1:e.1=2
   ·rw[aY g1,aY g1];exact bad 8 (by decide)
   rw[aN g1,aN g1];by_cases g2:a.b<0\/e.2.1<=a.b
   ·rw[aY g2,aY g2];exact bad 5 (by decide)
   rw[aN g2,aN g2];by_cases g3:a.bF.length≠64
   ·rw[aY g3,aY g3];exact bad 6 (by decide)
   rw[aN g3,aN g3,ψ.live,ψ.cap];by_cases g4:m.cap<(iP m.R:Int)+1
   ·rw[aY g4,aY g4];exact bad 9 (by decide)
   rw[aN g4,aN g4];by_cases g5:bs.room m.st 2=false
   ·rw[aY g5];exact .inl ⟨rfl,g5,by omega⟩
   rw[aN g5];have l5:bh.kP a.bF:=⟨by omega,aP⟩;obtain⟨dI,o⟩:=aib h anV g1 (b:=a.b) (by dsimp only;omega) l5 (by omega) (by simpa using g5);generalize hp:(ga m a.bF 2).1=m1 at dI o⊢;generalize ag:(ga m a.bF 2).2=x at dI o⊢;obtain⟨f1,f2,f3⟩:=(lJ h.gG).1 h.fit;have hu:∀y∈nA A.E,f y.1∈used m.R:=λy ag=>by rw[ψ.R,W2];exact gM.2 ⟨y,ag,rfl⟩
   have lM:=aeu aL a.b.toNat (some (A.n,a.bF));have ji:∀y∈nA (IJ A.E a.v.toNat a.b.toNat (some (A.n,a.bF))),y∈nA A.E\/y=(A.n,a.bF):=λy ag=>by
    rw[lM]at ag;rcases ab2 ag with h1|h1
    ·exact .inl h1
    ·rcases pH h1 with η|η
     ·exact .inl (AI.2 ⟨e,eS aL,η⟩)
     ·cases η;exact .inr rfl
   let ij:Nat->di:=λi=>if i=A.n then x else f i
   have fold:∀y∈nA A.E,ij y.1=f y.1:=λy ag=>aN (λe=>by have:=ψ.lt y ag;omega);have NV:ij A.n=x:=aY rfl;refine ok _ _ _ ij rfl ⟨ψ.s.trans dI.s.symm,ψ.k.trans dI.k.symm,?_,λy ag z aI bz=>?_,λy ag=>?_,λy ag=>?_⟩
   ·show jD m.R a.v.toNat a.b.toNat (some x)=xO ij (IJ A.E a.v.toNat a.b.toNat (some (A.n,a.bF)));have UE:m.R[a.v.toNat]?=some (e.1,e.2.1,e.2.2.map (Option.map λx=>f x.1)):=by rw[ψ.get,aL];rfl
    have same:∀c6∈A.E,c6.2.2.map (Option.map λx=>ij x.1)=c6.2.2.map (Option.map λx=>f x.1):=λc6 dO=>by
     apply CE;intro q ay;cases q with
     |none=>rfl
     |some y=>rw[jd,jd,fold y (AI.2 ⟨c6,dO,ay⟩)]
    have amW:m.R=xO ij A.E:=by rw[ψ.R];unfold xO;apply CE;intro c6 dO;rw[same c6 dO]
    rw[P8 UE,lM,amW];unfold xO;rw[q6];dsimp only;rw[q6,jd,NV,same e (eS aL)]
   ·rcases ji y ag with ag|rfl<;>rcases ji z aI with aI|rfl
    ·rw[fold y ag,fold z aI]at bz;exact ψ.inj y ag z aI bz
    ·rw[fold y ag]at bz;dsimp only at bz;rw[NV]at bz;exact absurd (bz▸hu y ag) dI.new
    ·rw[fold z aI]at bz;dsimp only at bz;rw[NV]at bz;exact absurd (bz▸hu z aI) dI.new
    ·rfl
   ·show gO m1.k m1.d (ij y.1)=y.2;rw[dI.k,dI.d];rcases ji y ag with ag|rfl
    ·rw[fold y ag,Wq h.gG h.mA dI.lt _ (f2 _ (hu y ag)),aN λe:f y.1=x=>dI.new (by rw[<-e];exact hu y ag)];exact ψ.sec y ag
    ·dsimp only;rw[NV,Wq h.gG h.mA dI.lt _ dI.lt,aY rfl]
   ·show y.1<A.n+1;rcases ji y ag with ag|rfl
    ·have:=ψ.lt y ag;omega
    ·exact Iu _
 rw[aN c9,aN c9];by_cases iv:a.k=6
 ·rw[aY iv,aY iv,ψ.jL];cases he:ih A.E a.v with
  |none=>exact bad 4 (by decide)
  |some e=>
   obtain⟨v0,bg,aL,hk⟩:=NO he;rw[jd];dsimp only;by_cases g1:e.1=2
   ·rw[aY g1,aY g1];exact bad 8 (by decide)
   rw[aN g1,aN g1];by_cases g2:a.b<0\/e.2.1<=a.b
   ·rw[aY g2,aY g2];exact bad 5 (by decide)
   rw[aN g2,aN g2];have UE:m.R[a.v.toNat]?=some (e.1,e.2.1,e.2.2.map (Option.map λx=>f x.1)):=by rw[ψ.get,aL];rfl
   rw[aeu aL];refine ok _ _ _ f rfl (ψ.set (m':=o2 {m with R:=jD m.R a.v.toNat a.b.toNat none} ⟨5,a.v,0,a.b,0,0⟩) rfl rfl rfl a.v.toNat (e.1,e.2.1,e.2.2.set a.b.toNat none) (λx I=>?_) ?_)
   ·rcases pH I with I|I
    ·exact AI.2 ⟨e,eS aL,I⟩
    ·cases I
   ·show jD m.R _ _ _=_;rw[P8 UE,q6];rfl
 rw[aN iv,aN iv];by_cases h7:a.k=7
 ·rw[aY h7,aY h7];obtain⟨s1,s2,pK,si,aem,ayp⟩:=ae2 h ay;exact ok _ _ _ f rfl (ψ.same h.base si aem pK s2)
 rw[aN h7,aN h7];by_cases dr:a.k=8
 ·rw[aY dr,aY dr,ψ.live,ψ.cap];exact ok _ _ _ f rfl ψ
 rw[aN dr,aN dr,ψ.jL];cases he:ih A.E a.v with
 |none=>exact bad 4 (by decide)
 |some e=>exact ok _ _ _ f rfl ψ
def sT(m:aK)(a:Ask):aK×gQ:=if(eN (tick m) a).2.e=12 then eN (tick (pv (tick (tick m)))) a else eN (tick m) a
structure Ok(m:aK)(A:eC)(n:Nat):Prop where
 inv:Inv m
 fZ:yo m n
 F2:∃f,jI m A f
theorem Ok.more{m:aK}{A:eC}{n fk:Nat}(h:Ok m A n)(ar:n<=fk):Ok m A fk:=⟨h.inv,h.fZ.more ar,h.F2⟩
theorem Ok.tick{m:aK}{A:eC}{n:Nat}(h:Ok m A n):Ok (tick m) A (n+1):=by obtain⟨f,bf⟩:=h.F2;exact⟨at7 h.inv,at6 h.fZ,f,bf.same h.inv.base rfl rfl (iK.refl h.inv.dev) rfl⟩
theorem Ok.clean{m:aK}{A:eC}{n:Nat}(h:Ok m A n)(ar:n<=900000):Ok (pv m) A (n+1):=by obtain⟨f,bf⟩:=h.F2;have ψ:=h.fZ.seq;have π:=h.fZ.clock;obtain⟨o,⟨g,c⟩,_⟩:=Zr h.inv (by omega) π.1;exact⟨o,⟨by rw[c.seq];omega,by rw[c.clock];omega,by rw[c.dl];exact da _,by rw[c.loose];exact da _⟩,_,bf.clean c⟩
theorem Ok.check{m:aK}{A:eC}{n:Nat}(h:Ok m A n)(ar:n<=900000):Ok (qS m) A (n+1):=by obtain⟨f,bf⟩:=h.F2;have ψ:=h.fZ.seq;have π:=h.fZ.clock;obtain⟨o,c⟩:=R5 h.inv (by omega);exact⟨o,⟨by rw[c.seq];omega,by rw[c.clock];omega,by rw[c.dl];exact da _,by rw[c.loose];exact da _⟩,_,bf.same h.inv.base c.s c.k c.low c.R⟩
theorem Ok.do{m:aK}{A:eC}{n:Nat}(h:Ok m A n)(ar:n<=900000){a:Ask}(aP:∀x∈a.bF,0<=x/\x<256):
  ((eN m a).2.e=12/\(eN m a).1=m/\bs.room m.st 2=false/\(iP m.R:Int)+1<=m.cap)\/((eN m a).2.e≠12/\(eN m a).2=(kc A a).2/\Ok (eN m a).1 (kc A a).1 (n+1)):=by
 obtain⟨f,bf⟩:=h.F2;have ψ:=h.fZ.seq;have kq:=alu h.inv (by omega) aP;rcases atm h.inv (by omega) bf aP with⟨h1,η,au⟩|⟨h1,η,au⟩
 ·exact .inl ⟨h1,kq.bad (by rw[h1];decide),η,au⟩
 ·exact .inr ⟨h1,η,kq.inv,kq.fZ _ h.fZ,au⟩
theorem Ok.full{m:aK}{A:eC}{n:Nat}(h:Ok m A n)(ar:n<=800000){a:Ask}(aP:∀x∈a.bF,0<=x/\x<256):
  (sT m a).2.e≠12/\(sT m a).2=(kc A a).2/\Ok (sT m a).1 (kc A a).1 (n+5):=by
 unfold sT;rcases h.tick.do (by omega) aP with⟨h1,η,au,bV⟩|⟨h1,η,au⟩
 ·rw[aY h1];have Cb:=h.tick.tick;have ψ:=Cb.fZ.seq;have π:=Cb.fZ.clock;have gg:=Cb.clean (by omega);rcases gg.tick.do (by omega) aP with⟨aZ,bP,b7,cp⟩|⟨aZ,bP,b7⟩
  ·obtain⟨o,⟨g,c⟩,σ⟩:=Zr Cb.inv (by omega) π.1
   have:=σ au bV
   rw[show(aK.tick (pv (aK.tick (aK.tick m)))).st=(pv (aK.tick (aK.tick m))).st from rfl,this]at b7;cases b7
  ·exact⟨aZ,bP,b7.more (by omega)⟩
 ·rw[aN h1];exact⟨h1,η,au.more (by omega)⟩
theorem Wd{α:Type}(n i:Nat)(a:α):(List.replicate n a).set i a=List.replicate n a:=by
 apply qp;intro j;rw[List.getElem?_set];by_cases h:i=j
 ·subst h;rw[aY rfl,List.getElem?_replicate,sf]
 ·rw[aN h]
def sA(n:Nat):List ao:=List.replicate n bh.hR
theorem VY(n:Nat):∀(j:Nat)(d:bh.dm)(i:Int),d.now=sA n->(mM d i (List.replicate j bh.hR)).now=sA n
 |0,d,i,h=>h
 |j+1,d,i,h=>by rw[FH];exact VY n j _ _ (by show d.now.set i.toNat bh.hR=_;rw[h];exact Wd _ _ _)
def D5(n:Nat):bh.dm:=kV (bh.dj (bh.dj (bh.fresh n) 0 bh.hR) 12 bh.hR)
def D6(n:Nat):bh.dm:=mM (D5 n) 24 (List.replicate 16 bh.hR)
def sY(n:Nat)(s k:Int):bh.dm:=u5 (D6 n) s k 1 (cw [])
theorem aac(n:Nat):(D5 n).now=sA n:=by show((sA n).set _ bh.hR).set _ bh.hR=sA n;rw[sA,Wd,Wd]
theorem amq(n:Nat):(D6 n).now=sA n:=VY n 16 _ _ (aac n)
section
variable{s k:Int}(eo:6<=s/\s<=24/\2<=k/\k<=16)
include eo
theorem Hg:lV s k (cw []):=by
 refine(lJ eo).2 ⟨by decide,λx I=>?_,?_⟩
 ·have:used (cw [])=[]:=by decide
  rw[this]at I;cases I
 ·have:iP (cw [])=0:=by decide
  rw[this]
  have:=se (show(0:Int)<=s-4 by omega) (show(0:Int)<=k by omega) (by decide) (by omega)
  omega
omit eo in
theorem Z5:∀e∈cw [],lN e:=(fy.zero default).ok
omit eo in
theorem seq1:uU 1:=⟨by decide,by decide⟩
omit eo in
theorem arH(k:Int):e4 k (cw [])=e4 2 (cw []):=rfl
omit eo in
theorem apU(s k:Int):∃pY nr,iH s k 1 (e4 k (cw []))=[pY,nr]:=by
 have h:(iH s k 1 (e4 k (cw []))).length=2:=by rw[Kg,arH];rfl
 match η:iH s k 1 (e4 k (cw []))with
 |[a,b]=>exact⟨a,b,rfl⟩
 |[]=>rw[η]at h;simp at h
 |[a]=>rw[η]at h;simp at h
 |a::b::c::l=>rw[η]at h;simp at h
omit eo in
theorem awM:mD bh.hR=false:=by decide+kernel
omit eo in
theorem akg:z1 []=(cw [],0,0,0,11):=YD λg=>by have:=g.aD;simp at this
theorem aj6{d:bh.dm}{pY nr:ao}(cY:iH s k 1 (e4 k (cw []))=[pY,nr])(g0:d.now[0]?=some bh.hR)(g12:d.now[12]?=some pY)(g13:d.now[13]?=some nr):vH d 2=(cw [],s,k,1):=by
 have AQ:wz d (12*0)=[]:=by rw[VP (s:=bh.hR) (by simpa using g0),aN λeo=>by rw[awM]at eo;cases eo.1]
 obtain⟨g,aM,bz,gw,iS⟩:=apV seq1 (Hg eo) Z5 rfl;have Ts:=YE g;rw[aM,bz,gw,iS]at Ts;rw[cY]at g bz gw iS Ts;have dq:mD pY=true:=g.xA;have h7:dn pY 4 4=1:=iS;have h1:dn pY 10 1=1:=by have eX:dn pY 10 1=(([pY,nr].length:Nat):Int)-1:=g.fA;simpa using eX
 have Lj:wz d (12*1)=[pY,nr]:=by rw[VP (s:=pY) (by simpa using g12),aY ⟨dq,by rw[h7];decide⟩,h1];have a:=drop_take (l:=d.now) (a:=12) (j:=0) (s:=pY) (by simpa using g12);have b:=drop_take (l:=d.now) (a:=12) (j:=1) (s:=nr) (by simpa using g13);have e:(1+(1:Int).toNat)=1+1:=rfl;rw[e,b,a];rfl
 show Bc (Bc RP (z1 (wz d (12*0)))) (z1 (wz d (12*1)))=_;rw[AQ,Lj,akg,Ts];rfl
omit eo in
theorem amp{n:Nat}{pY nr:ao}(cY:iH s k 1 (e4 k (cw []))=[pY,nr]):(sY n s k).now=((sA n).set 13 nr).set 12 pY:=by have ae:=amq n;unfold sY;generalize D6 n=d at ae⊢;unfold u5;rw[cY];show(d.now.set 13 nr).set 12 pY=_;rw[ae]
theorem aad{n:Nat}(ar:40<=n):vH (sY n s k) 2=(cw [],s,k,1)/\pC 1 (sY n s k).now 16 0=([],0)/\(sY n s k).now.length=n:=by
 obtain⟨pY,nr,cY⟩:=apU s k;have B8:=amp (n:=n) cY;refine⟨aj6 eo cY ?_ ?_ ?_,?_,?_⟩
 ·rw[B8,List.getElem?_set,aN (by omega),List.getElem?_set,aN (by omega),sA,List.getElem?_replicate,aY (by omega)]
 ·rw[B8,List.getElem?_set,aY rfl,aY (by rw[jB,sA,sf];omega)]
 ·rw[B8,List.getElem?_set,aN (by omega),List.getElem?_set,aY rfl,aY (by rw[sA,sf];omega)]
 ·have rK:(sY n s k).now.getD (24+0) []=bh.hR:=by
   rw[List.getD_eq_getElem?_getD,B8,List.getElem?_set,aN (by omega),List.getElem?_set,aN (by omega),sA,List.getElem?_replicate,aY (by omega)];rfl
  unfold pC;rw[rK]
  have:qv 1 ((0:Nat):Int) bh.hR=none:=by
   have h:(qv 1 0 bh.hR).isNone=true:=by decide+kernel
   exact Option.isNone_iff_eq_none.1 h
  rw[this]
 ·rw[B8,jB,jB,sA,sf]
end
def xp(s:Int):ao:=kC s.toNat (lays (used (cw []))) []
def ra(s k:Int):bs.hv:=(bs.begun s k (xp s)).getD ⟨0,0,[],0,0⟩
def wk(s k:Int):aK:={s:=s,k:=k,d:=sY (40+s*k).toNat s k,R:=cw [],st:=ra s k,seq:=1,used:=16,dl:=[],lB:=false,clock:=0,stamps:=List.replicate s.toNat 0}
def xQ(s k:Int):eC:=⟨s,k,List.replicate 8 (0,0,[]),0⟩
def pW(s k:Int):Prop:=6<=s/\s<=14/\2<=k/\k<=6
theorem aan{P:Int->Int->Prop}(h:∀a:_root_.Fin 9,∀b:_root_.Fin 5,P (6+a.val) (2+b.val)){s k:Int}(g:pW s k):P s k:=by
 have:=h ⟨(s-6).toNat,by have:=g.1;have:=g.2.1;omega⟩ ⟨(k-2).toNat,by have:=g.2.2;omega⟩
 have aM:(6:Int)+((s-6).toNat:Nat)=s:=by have:=g.1;omega
 have bz:(2:Int)+((k-2).toNat:Nat)=k:=by have:=g.2.2.1;omega
 dsimp only at this;rw[aM,bz]at this;exact this
theorem atF:∀a:_root_.Fin 9,∀b:_root_.Fin 5,(λ(s k:Int)=>(bs.begun s k (xp s)).isSome=true/\(ra s k).gT=s/\(ra s k).blocks=k/\2<=(ra s k).free.length) (6+a.val) (2+b.val):=by decide+kernel
theorem aeQ{s k:Int}(g:pW s k):bs.begun s k (xp s)=some (ra s k)/\(ra s k).gT=s/\(ra s k).blocks=k/\2<=(ra s k).free.length:=by obtain⟨h1,η⟩:=aan (P:=λs k=>(bs.begun s k (xp s)).isSome=true/\(ra s k).gT=s/\(ra s k).blocks=k/\2<=(ra s k).free.length) atF g;obtain⟨x,I⟩:=Ip.1 h1;refine⟨?_,η⟩;unfold ra;rw[I];rfl
theorem pW.wide{s k:Int}(g:pW s k):6<=s/\s<=24/\2<=k/\k<=16:=by unfold pW at g;omega
theorem pW.prod{s k:Int}(g:pW s k):12<=s*k/\s*k<=84:=by unfold pW at g;have h1:6*2<=s*k:=se (by omega) (by omega) (by omega) (by omega);have η:s*k<=14*6:=se (by omega) (by omega) (by omega) (by omega);omega
theorem as9(d:bh.dm)(s k q:Int)(R:bW):(u5 d s k q R).off=(mM d (p2 q+1) (iH s k q (e4 k R)).tail).off/\(u5 d s k q R).after=(mM d (p2 q+1) (iH s k q (e4 k R)).tail).after:=⟨rfl,rfl⟩
theorem VW:∀(l:List ao)(d:bh.dm)(i:Int),(mM d i l).off=d.off/\(mM d i l).after=d.after/\(mM d i l).loose.length=d.loose.length+l.length
 |[],d,i=>⟨rfl,rfl,rfl⟩
 |x::r,d,i=>by obtain⟨h1,η,au⟩:=VW r (bh.dj d i x) (i+1);refine⟨h1,η,?_⟩;show(mM (bh.dj d i x) (i+1) r).loose.length=_;rw[au];show(d.loose++[(i,x)]).length+_=_;rw[e9,List.length_cons,List.length_cons,List.length_nil];omega
theorem amr(n:Nat):(D6 n).off=false/\(D6 n).after=-1:=by obtain⟨h1,η,_⟩:=VW (List.replicate 16 bh.hR) (D5 n) 24;exact⟨h1,η⟩
theorem aae(n:Nat)(s k:Int):(sY n s k).off=false/\(sY n s k).after=-1:=by obtain⟨h1,η⟩:=as9 (D6 n) s k 1 (cw []);obtain⟨aZ,bP,_⟩:=VW (iH s k 1 (e4 k (cw []))).tail (D6 n) (p2 1+1);obtain⟨aM,bz⟩:=amr n;exact⟨(h1.trans aZ).trans aM,(η.trans bP).trans bz⟩
theorem aqC{s k:Int}(g:pW s k)(bL:bh.Good (sY (40+s*k).toNat s k))(b0:bs.Good (ra s k)):Ok (wk s k) (xQ s k) 2:=by
 have hw:=g.wide;have hp:=g.prod;obtain⟨f1,f2,f3⟩:=aad hw (n:=(40+s*k).toNat) (by omega);obtain⟨t1,t2,t3,t4⟩:=aeQ g;have hu:used (cw [])=[]:=by decide
 refine⟨⟨hw,rfl,Z5,Hg hw,b0,t2,t3,t4,?_,?_,bL,(aae _ s k).1,(aae _ s k).2,?_,?_,?_,?_,by show 16<=16;omega,by show(1:Int)<=1;omega⟩,⟨?_,?_,?_,?_⟩,?_⟩
 ·intro x I;have I:x∈used (cw []):=I;rw[hu]at I;cases I
 ·intro x I;have I:x∈used (cw []):=I;rw[hu]at I;cases I
 ·show((sY (40+s*k).toNat s k).now.length:Int)=40+s*k;rw[f3];omega
 ·show(List.replicate s.toNat (0:Int)).length=s.toNat;rw[sf]
 ·intro t aO
  have:=u0 (show t∈List.replicate s.toNat (0:Int)from aO)
  show 0<=t/\t<=0;omega
 ·intro d ae;cases ae
 ·show(1:Int)<=_;omega
 ·show(0:Int)<=0/\(0:Int)<=_;omega
 ·exact da _
 ·exact da _
 ·refine⟨λ_=>(0,0),rfl,rfl,rfl,?_,?_,?_⟩
  all_goals(intro x I;have I:x∈nA (List.replicate 8 ((0,0,[]):mU)):=I;exact absurd I (by rw[show nA (List.replicate 8 ((0,0,[]):mU))=[]by decide];exact oj))
end Go.Proofs.YtcpdfhkhaekekaaGreat.G.aK
namespace Go.Proofs.YtcpdfhkhaekekaaGreat.G.cV
open Go.bI Go.RowKit cr dB eh cQ aK
def hF(w:World)(T:List Nat)(i:Nat):Prop:=∃e∈T,Typed w e i
theorem hF.off{w:World}{T:List Nat}{i:Nat}(h:hF w T i){f:Nat}(k:Typed w f i)(ar:f∉T):False:=by obtain⟨e,he,aO⟩:=h;exact aO.ne k (λbz=>ar (bz▸he)) rfl
theorem hF.Cq{w:World}{T U:List Nat}{i:Nat}(h:hF w T i)(k:hF w U i)(ar:(T.all λe=>!U.contains e)=true):False:=by
 obtain⟨e,he,aO⟩:=h;refine k.off aO λhm=>?_
 have:=Cy.1 ar e he
 rw[List.contains_iff_mem.2 hm]at this;cases this
abbrev Yr:List Nat:=[rf,wZ]
abbrev Yq:List Nat:=[QD,QE,QF]
abbrev ajR:List Nat:=[Bb]
abbrev Ys:List Nat:=[tK,ck]
abbrev Bw:List Nat:=[tL,vf,yc]
abbrev ajQ:List Nat:=[ft]
abbrev cR:List Nat:=[ck]
abbrev Bv:List Nat:=[rh]
abbrev nV:List Nat:=[rh,rf,wZ,QD,QE,QF,Bb,tK,ck,ft]
theorem hF.mono{w:World}{T U:List Nat}{i:Nat}(h:hF w T i)(ψ:∀e∈T,e∈U):hF w U i:=by obtain⟨e,he,aO⟩:=h;exact⟨e,ψ e he,aO⟩
theorem yb{w:World}{i:Nat}:sE w i↔hF w Bw i:=by
 unfold sE hF;constructor
 ·rintro(h|h|h)
  ·exact⟨_,by simp,h⟩
  ·exact⟨_,by simp,h⟩
  ·exact⟨_,by simp,h⟩
 ·rintro⟨e,he,h⟩;simp only[fE,oj,pa]at he;rcases he with rfl|rfl|rfl
  ·exact .inl h
  ·exact .inr (.inl h)
  ·exact .inr (.inr h)
section off
variable{w w':World}{S:a1}{T:List Nat}
theorem gX(k:Kp w w' S)(ed:∀i,S i->hF w T i){B:Nat}{e:TypeId}{sz:Nat}{p:J}{n c:Nat}{xs:aU}(γ:μ w B e sz p n c xs)(ar:e∉T):μ w' B e sz p n c xs:=
 γ.aC k λx I o=>(ed _ o).off (γ.typed I).1 ar
theorem JY{B bm:Nat}{xs:List (bG.cg×Int)}{aj:Int}{D:a1}(h:bG.mV w B bm xs aj D):∀i,D i->hF w Yr i:=λi o=>by
 rcases(h.typed o).1 with t|t
 ·exact⟨_,by simp,t⟩
 ·exact⟨_,by simp,t⟩
theorem Sz{B pd:Nat}{d:bh.dm}{D:a1}(h:bh.hZ w B pd d D):∀i,D i->hF w Yq i:=λi o=>by
 rcases(h.typed o).1 with t|t|t
 ·exact⟨_,by simp,t⟩
 ·exact⟨_,by simp,t⟩
 ·exact⟨_,by simp,t⟩
theorem WD{B ps:Nat}{s:bs.hv}{D:a1}(h:bs.lD w B ps s D):∀i,D i->hF w Ys i:=λi o=>by
 rcases(h.typed o).1 with t|t
 ·exact⟨_,by simp,t⟩
 ·exact⟨_,by simp,t⟩
theorem vR(k:Kp w w' S)(ed:∀i,S i->hF w T i){B bm:Nat}{xs:List (bG.cg×Int)}{aj:Int}{D:a1}(h:bG.mV w B bm xs aj D)(ar:(T.all λe=>!Yr.contains e)=true)(dr:cG∉T):bG.mV w' B bm xs aj D:=
 h.aC k (λi o ψ=>(ed i ψ).Cq (JY h i o) ar) λi ψ aO=>(ed i ψ).off aO dr
theorem vM(k:Kp w w' S)(ed:∀i,S i->hF w T i){B pd:Nat}{d:bh.dm}{D:a1}(h:bh.hZ w B pd d D)(ar:(T.all λe=>!Yq.contains e)=true):bh.hZ w' B pd d D:=
 h.aC k λi o ψ=>(ed i ψ).Cq (Sz h i o) ar
theorem zq(k:Kp w w' S)(ed:∀i,S i->hF w T i){B ps:Nat}{s:bs.hv}{D:a1}(h:bs.lD w B ps s D)(ar:(T.all λe=>!Ys.contains e)=true):bs.lD w' B ps s D:=
 h.aC k λi o ψ=>(ed i ψ).Cq (WD h i o) ar
theorem wH(k:Kp w w' S)(ed:∀i,S i->hF w T i){B b4:Nat}{R:bW}(h:kn w B b4 R)(ar:Bb∉T)(aO:(T.all λe=>!Bw.contains e)=true):kn w' B b4 R:=
 h.aC k (λψ=>(ed _ ψ).off h.typed.1 ar) λi ψ en=>(ed i ψ).Cq (yb.1 en) aO
end off
structure vz where
 bm:Nat
 b4:Nat
 ps:Nat
 Af:J
 dc:Nat
 kv:Nat
 sc:Nat
def ma(pd:Nat)(q:vz)(m:aK):aU:=
 [.pointer (some ⟨q.bm,0,none⟩),.pointer (some ⟨pd,0,none⟩),.int .i64 m.s,.int .i64 m.k,.pointer (some ⟨q.b4,0,none⟩),.pointer (some ⟨q.ps,0,none⟩),.int .i64 m.seq,.int .i64 (m.used:Int),.slice q.Af m.dl.length q.dc,.bool m.lB,.int .i64 m.clock,.slice (some ⟨q.kv,0,none⟩) m.stamps.length q.sc,.bool false]
structure fi(w:World)(pp pd:Nat)(q:vz)(c8 dy db:a1)(m:aK)(xs:List (bG.cg×Int))(aj:Int):Prop where
 cell:μ w 0 rh 13 (some ⟨pp,0,none⟩) 1 1 (ma pd q m)
 gate:bG.mV w 0 q.bm xs aj c8
 dev:bh.hZ w 0 pd m.d dy
 lu:kn w 0 q.b4 m.R
 st:bs.lD w 0 q.ps m.st db
 dl:μ w 0 ft 5 q.Af m.dl.length q.dc (jK m.dl)
 stamps:μ w 0 ck 1 (some ⟨q.kv,0,none⟩) m.stamps.length q.sc (bs.cK m.stamps)
 apart:¬db q.kv
def jS(pp:Nat)(q:vz)(c8 dy db:a1)(i:Nat):Prop:=i=pp\/c8 i\/dy i\/i=q.b4\/db i\/(∃x,q.Af=some x/\x.block=i)\/i=q.kv
def hj(w:World)(pp pd:Nat)(m:aK)(xs:List (bG.cg×Int))(aj:Int)(D:a1):Prop:=∃q c8 dy db,fi w pp pd q c8 dy db m xs aj/\∀i,D i↔jS pp q c8 dy db i
theorem fi.fV{w:World}{pp pd:Nat}{q:vz}{c8 dy db:a1}{m:aK}{xs:List (bG.cg×Int)}{aj:Int}(h:fi w pp pd q c8 dy db m xs aj){i:Nat}(o:jS pp q c8 dy db i):hF w nV i/\i<w.heap.size:=by
 rcases o with rfl|o|o|rfl|o|⟨x,I,rfl⟩|rfl
 ·exact⟨⟨_,by simp,(h.cell.typed rfl).1⟩,(h.cell.ge rfl).2⟩
 ·exact⟨(JY h.gate i o).mono (by decide),(h.gate.typed o).2.2⟩
 ·exact⟨(Sz h.dev i o).mono (by decide),(h.dev.typed o).2.2⟩
 ·exact⟨⟨_,by simp,h.lu.typed.1⟩,h.lu.typed.2.2⟩
 ·exact⟨(WD h.st i o).mono (by decide),(h.st.typed o).2.2⟩
 ·exact⟨⟨_,by simp,(h.dl.typed I).1⟩,(h.dl.ge I).2⟩
 ·exact⟨⟨_,by simp,(h.stamps.typed rfl).1⟩,(h.stamps.ge rfl).2⟩
theorem hj.fV{w:World}{pp pd:Nat}{m:aK}{xs:List (bG.cg×Int)}{aj:Int}{D:a1}(h:hj w pp pd m xs aj D){i:Nat}(o:D i):hF w nV i/\i<w.heap.size:=by obtain⟨q,c8,dy,db,h,b1⟩:=h;exact h.fV ((b1 i).1 o)
theorem fi.aC{w w':World}{pp pd:Nat}{q:vz}{c8 dy db:a1}{m:aK}{xs:List (bG.cg×Int)}{aj:Int}(h:fi w pp pd q c8 dy db m xs aj){S:a1}(k:Kp w w' S)(ψ:∀i,jS pp q c8 dy db i->¬S i)(aO:∀i,S i->¬sE w i)(dr:∀i,S i->¬Typed w cG i):fi w' pp pd q c8 dy db m xs aj:=
 ⟨h.cell.aC k λx I=>by cases I;exact ψ _ (.inl rfl),h.gate.aC k (λi o=>ψ i (.inr (.inl o))) dr,h.dev.aC k λi o=>ψ i (.inr (.inr (.inl o))),h.lu.aC k (ψ _ (.inr (.inr (.inr (.inl rfl))))) aO,h.st.aC k λi o=>ψ i (.inr (.inr (.inr (.inr (.inl o))))),h.dl.aC k λx I=>ψ _ (.inr (.inr (.inr (.inr (.inr (.inl ⟨x,I,rfl⟩)))))),h.stamps.aC k λx I=>by cases I;exact ψ _ (.inr (.inr (.inr (.inr (.inr (.inr rfl)))))),h.apart⟩
theorem hj.aC{w w':World}{pp pd:Nat}{m:aK}{xs:List (bG.cg×Int)}{aj:Int}{D:a1}(h:hj w pp pd m xs aj D){S:a1}(k:Kp w w' S)(ψ:∀i,D i->¬S i)(aO:∀i,S i->¬sE w i)(dr:∀i,S i->¬Typed w cG i):hj w' pp pd m xs aj D:=by obtain⟨q,c8,dy,db,h,b1⟩:=h;exact⟨q,c8,dy,db,h.aC k (λi o=>ψ i ((b1 i).2 o)) aO dr,b1⟩
theorem fi.ex{w w':World}{pp pd:Nat}{q:vz}{c8 dy db:a1}{m:aK}{xs:List (bG.cg×Int)}{aj:Int}(h:fi w pp pd q c8 dy db m xs aj)(x:θ w w'):fi w' pp pd q c8 dy db m xs aj:=h.aC x (λ_ _ h=>h) (λ_ h=>h.elim) λ_ h=>h.elim
theorem hj.ex{w w':World}{pp pd:Nat}{m:aK}{xs:List (bG.cg×Int)}{aj:Int}{D:a1}(h:hj w pp pd m xs aj D)(x:θ w w'):hj w' pp pd m xs aj D:=h.aC x (λ_ _ h=>h) (λ_ h=>h.elim) λ_ h=>h.elim
structure dQ(w0:World)(dY:a1)(w:World)(pp pd:Nat)(m:aK)(xs:List (bG.cg×Int))(aj:Int)(D:a1):Prop where
 is:hj w pp pd m xs aj D
 aC:Kp w0 w dY
 sub:∀i,D i->dY i\/w0.heap.size<=i
theorem dQ.start{w:World}{pp pd:Nat}{m:aK}{xs:List (bG.cg×Int)}{aj:Int}{D:a1}(h:hj w pp pd m xs aj D):dQ w D w pp pd m xs aj D:=⟨h,Kp.refl _ _,λ_ h=>.inl h⟩
theorem dQ.ex{w0 w w':World}{dY:a1}{pp pd:Nat}{m:aK}{xs:List (bG.cg×Int)}{aj:Int}{D:a1}(h:dQ w0 dY w pp pd m xs aj D)(x:θ w w'):dQ w0 dY w' pp pd m xs aj D:=⟨h.is.ex x,h.aC.gr (x.aC _),h.sub⟩
theorem dQ.trans{w0 w w':World}{dY D bb:a1}{pp pd:Nat}{m m':aK}{xs mS:List (bG.cg×Int)}{aj po:Int}(h:dQ w0 dY w pp pd m xs aj D)(k:dQ w D w' pp pd m' mS po bb):dQ w0 dY w' pp pd m' mS po bb:=
 ⟨k.is,Kp.trans h.aC k.aC (λ_ _ h=>h) (λi o ae=>by rcases h.sub i ae with h|h;exact h;omega),λi o=>by
  rcases k.sub i o with h1|h1
  ·exact h.sub i h1
  ·exact .inr (fo h.aC.size h1)⟩
theorem dQ.aqM{w0 w:World}{dY D:a1}{pp pd:Nat}{m:aK}{xs:List (bG.cg×Int)}{aj:Int}(h:dQ w0 dY w pp pd m xs aj D){b:Nat}(ω:¬dY b)(an:b<w0.heap.size):¬D b:=λae=>by
 rcases h.sub b ae with h1|h1
 ·exact ω h1
 ·omega
theorem dQ.c0{w0 w:World}{dY D:a1}{pp pd:Nat}{m m0:aK}{xs MP:List (bG.cg×Int)}{aj Mm:Int}(h:dQ w0 dY w pp pd m xs aj D)(aF:hj w0 pp pd m0 MP Mm dY){B:Nat}{e:TypeId}{sz:Nat}{p:J}{n c:Nat}{vs:aU}(γ:μ w0 B e sz p n c vs)(ar:e∉nV):μ w B e sz p n c vs:=
 gX h.aC (λi o=>(aF.fV o).1) γ ar
open Tryz
section step
variable{w w':World}{pp pd:Nat}{q:vz}{c8 dy db:a1}{m:aK}{xs:List (bG.cg×Int)}{aj:Int}{D:a1}
theorem fi.iC(b1:∀i,D i↔jS pp q c8 dy db i){ng:vz}{sB qK vu:a1}{m':aK}{mS:List (bG.cg×Int)}{po:Int}(h1:fi w' pp pd ng sB qK vu m' mS po)(k:Kp w w' (jS pp q c8 dy db))(sub:∀i,jS pp ng sB qK vu i->jS pp q c8 dy db i\/w.heap.size<=i):
  dQ w D w' pp pd m' mS po (jS pp ng sB qK vu):=
 ⟨⟨ng,sB,qK,vu,h1,λi=>nh⟩,k.mono λi _ h=>(b1 i).2 h,λi o=>(sub i o).imp_left (b1 i).2⟩
theorem fi.Qe(h:fi w pp pd q c8 dy db m xs aj){d':bh.dm}(a:bh.C1 w 0 pd d' dy w'):∃qK,fi w' pp pd q c8 qK db {m with d:=d'} xs aj/\Kp w w' (jS pp q c8 dy db)/\∀i,jS pp q c8 qK db i->jS pp q c8 dy db i\/w.heap.size<=i:=by
 obtain⟨qK,h1,_,k,ψ⟩:=a;have dg:=Sz h.dev;refine⟨qK,⟨gX k dg h.cell (by decide),vR k dg h.gate (by decide) (by decide),h1,wH k dg h.lu (by decide) (by decide),zq k dg h.st (by decide),gX k dg h.dl (by decide),gX k dg h.stamps (by decide),h.apart⟩,k.mono λi _ o=>.inr (.inr (.inl o)),λi o=>?_⟩;rcases o with o|o|o|o
 ·exact .inl (.inl o)
 ·exact .inl (.inr (.inl o))
 ·exact(ψ i o).imp_left λh=>.inr (.inr (.inl h))
 ·exact .inl (.inr (.inr (.inr o)))
theorem fi.aeU(h:fi w pp pd q c8 dy db m xs aj){mS:List (bG.cg×Int)}{po:Int}(a:bG.Q4 w 0 q.bm mS po c8 w'):∃sB,fi w' pp pd q sB dy db m mS po/\Kp w w' (jS pp q c8 dy db)/\∀i,jS pp q sB dy db i->jS pp q c8 dy db i\/w.heap.size<=i:=by
 obtain⟨sB,h1,k,ψ⟩:=a;have dg:=JY h.gate;refine⟨sB,⟨gX k dg h.cell (by decide),h1,vM k dg h.dev (by decide),wH k dg h.lu (by decide) (by decide),zq k dg h.st (by decide),gX k dg h.dl (by decide),gX k dg h.stamps (by decide),h.apart⟩,k.mono λi _ o=>.inr (.inl o),λi o=>?_⟩;rcases o with o|o|o
 ·exact .inl (.inl o)
 ·exact(ψ i o).imp_left λh=>.inr (.inl h)
 ·exact .inl (.inr (.inr o))
theorem fi.L1(h:fi w pp pd q c8 dy db m xs aj){vA:bW}(a:nR w 0 q.b4 vA w'):fi w' pp pd q c8 dy db {m with R:=vA} xs aj/\Kp w w' (jS pp q c8 dy db):=by obtain⟨h1,k⟩:=a;have dg:∀i,i=q.b4->hF w ajR i:=λi o=>o▸⟨_,by simp,h.lu.typed.1⟩;exact⟨⟨gX k dg h.cell (by decide),vR k dg h.gate (by decide) (by decide),vM k dg h.dev (by decide),h1,zq k dg h.st (by decide),gX k dg h.dl (by decide),gX k dg h.stamps (by decide),h.apart⟩,k.mono λi _ o=>.inr (.inr (.inr (.inl o)))⟩
theorem fi.aeV(h:fi w pp pd q c8 dy db m xs aj){wI:bs.hv}(a:bs.GO w 0 q.ps wI db w'):∃vu,fi w' pp pd q c8 dy vu {m with st:=wI} xs aj/\Kp w w' (jS pp q c8 dy db)/\∀i,jS pp q c8 dy vu i->jS pp q c8 dy db i\/w.heap.size<=i:=by
 obtain⟨vu,h1,k,ψ⟩:=a;have dg:=WD h.st;refine⟨vu,⟨gX k dg h.cell (by decide),vR k dg h.gate (by decide) (by decide),vM k dg h.dev (by decide),wH k dg h.lu (by decide) (by decide),h1,gX k dg h.dl (by decide),h.stamps.aC k λx I o=>by cases I;exact h.apart o,λo=>?_⟩,k.mono λi _ o=>.inr (.inr (.inr (.inr (.inl o)))),λi o=>?_⟩
 ·rcases ψ _ o with h1|h1
  ·exact h.apart h1
  ·have:=(h.stamps.ge rfl).2
   dsimp only at this;omega
 rcases o with o|o|o|o|o|o
 ·exact .inl (.inl o)
 ·exact .inl (.inr (.inl o))
 ·exact .inl (.inr (.inr (.inl o)))
 ·exact .inl (.inr (.inr (.inr (.inl o))))
 ·exact(ψ i o).imp_left λh=>.inr (.inr (.inr (.inr (.inl h))))
 ·exact .inl (.inr (.inr (.inr (.inr (.inr o)))))
theorem fi.aeT(h:fi w pp pd q c8 dy db m xs aj){m':aK}(k:Kp w w' λi=>i=pp)(γ:μ w' 0 rh 13 (some ⟨pp,0,none⟩) 1 1 (ma pd q m'))(ae:m'.d=m.d)(ix:m'.R=m.R)(b0:m'.st=m.st)(xz:m'.dl=m.dl)(mF:m'.stamps=m.stamps):fi w' pp pd q c8 dy db m' xs aj/\Kp w w' (jS pp q c8 dy db):=by have dg:∀i,i=pp->hF w Bv i:=λi o=>o▸⟨_,by simp,(h.cell.typed rfl).1⟩;refine⟨⟨γ,vR k dg h.gate (by decide) (by decide),by rw[ae];exact vM k dg h.dev (by decide),by rw[ix];exact wH k dg h.lu (by decide) (by decide),by rw[b0];exact zq k dg h.st (by decide),by rw[xz];exact gX k dg h.dl (by decide),by rw[mF];exact gX k dg h.stamps (by decide),h.apart⟩,k.mono λi _ o=>.inl o⟩
theorem arT(s:Int):(ma pd q m).set 6 (.int .i64 s)=ma pd q {m with seq:=s}:=rfl
theorem adJ(u:Nat):(ma pd q m).set 7 (.int .i64 (u:Int))=ma pd q {m with used:=u}:=rfl
theorem arU(b:Bool):(ma pd q m).set 9 (.bool b)=ma pd q {m with lB:=b}:=rfl
theorem arR(c:Int):(ma pd q m).set 10 (.int .i64 c)=ma pd q {m with clock:=c}:=rfl
theorem arS(r:Nat):(ma pd q m).set 4 (.pointer (some ⟨r,0,none⟩))=ma pd {q with b4:=r} m:=rfl
theorem fi.put(h:fi w pp pd q c8 dy db m xs aj)(j:Nat)(χ:j<13){v:Value}(aL:v.oneCell'=true){N:ai}(K:∀w',Kp w w' (λi=>i=pp)->μ w' 0 rh 13 (some ⟨pp,0,none⟩) 1 1 ((ma pd q m).set j v)->N w'):
  (w.cell? (⟨pp,j,none⟩:Addr)).isSome=true/\w.frozen? (⟨pp,j,none⟩:Addr)=false/\∀υ,υ=w.setCell (⟨pp,j,none⟩:Addr) v->N υ:=
 h.cell.dj (j:=j) (by omega) aL λυ k γ=>K υ k γ
theorem fi.atI(h:fi w pp pd q c8 dy db m xs aj){vA:bW}{r:Nat}(σ:kn w 0 r vA)(k:Kp w w' λi=>i=pp)(γ:μ w' 0 rh 13 (some ⟨pp,0,none⟩) 1 1 (ma pd {q with b4:=r} m)):fi w' pp pd {q with b4:=r} c8 dy db {m with R:=vA} xs aj/\Kp w w' (jS pp q c8 dy db):=by have dg:∀i,i=pp->hF w Bv i:=λi o=>o▸⟨_,by simp,(h.cell.typed rfl).1⟩;exact⟨⟨γ,vR k dg h.gate (by decide) (by decide),vM k dg h.dev (by decide),wH k dg σ (by decide) (by decide),zq k dg h.st (by decide),gX k dg h.dl (by decide),gX k dg h.stamps (by decide),h.apart⟩,k.mono λi _ o=>.inl o⟩
theorem fi.atJ(h:fi w pp pd q c8 dy db m xs aj){j:Nat}(χ:j<m.stamps.length)(c:Int){N:ai}(K:∀w',fi w' pp pd q c8 dy db {m with stamps:=m.stamps.set j c} xs aj->Kp w w' (jS pp q c8 dy db)->N w'):
  (w.cell? (⟨q.kv,j,none⟩:Addr)).isSome=true/\w.frozen? (⟨q.kv,j,none⟩:Addr)=false/\∀υ,υ=w.setCell (⟨q.kv,j,none⟩:Addr) (.int .i64 c)->N υ:=by
 refine h.stamps.dj (j:=j) (by omega) rfl λυ k γ=>?_;have dg:∀i,i=q.kv->hF w cR i:=λi o=>o▸⟨_,by simp,(h.stamps.typed rfl).1⟩;have e:(bs.cK m.stamps).set j (.int .i64 c)=bs.cK (m.stamps.set j c):=by unfold bs.cK;rw[q6]
 have π:ma pd q {m with stamps:=m.stamps.set j c}=ma pd q m:=by unfold ma;dsimp only;rw[jB]
 refine K υ ⟨by rw[π];exact gX k dg h.cell (by decide),vR k dg h.gate (by decide) (by decide),vM k dg h.dev (by decide),wH k dg h.lu (by decide) (by decide),h.st.aC k λi o bz=>h.apart (bz▸o),gX k dg h.dl (by decide),?_,h.apart⟩ (k.mono λi _ o=>.inr (.inr (.inr (.inr (.inr (.inr o))))));show μ υ 0 ck 1 (some ⟨q.kv,0,none⟩) (m.stamps.set j c).length q.sc (bs.cK (m.stamps.set j c));rw[jB,<-e];exact γ
end step
theorem aqz(w:World):AR.C 0 w (φ λv w'=>v=.tuple #[]/\w'=w):=by apply AR.ok;unfold AR.main;rw[cond_neg (by rfl)];exact φ.mk ⟨rfl,rfl⟩
def yK(e:Int):List PanicEntry:=[{v:=(Value.iface W0 (Value.agg #[(Value.int .i64 e)])),recovered:=false}]
theorem jz{e:Int}{w:World}{N:Value->ai}{X:List PanicEntry->ai}(aF:e=0->N (.tuple #[]) w)(h1:e≠0->X (yK e) w):κ prog 52 #[.int .i64 e] w N X:=by
 show Calls prog _ _ w _;by_cases he:e=0
 ·subst he;exact(aqz w).mono λiT w'⟨v,aL,η,au⟩=>by subst aL η au;exact aF rfl
 ·apply AR.ok;unfold AR.main;rw[cond_pos (by simpa using he)];exact h1 he
theorem Q5{s k:Int}(eo:6<=s/\s<=24/\2<=k/\k<=16){x:di}(I:(x.1:Int)<s/\(x.2:Int)<k)(w:World):
  ze.C s k (eI (some x)) (eQ (some x)) w (φ λv w'=>v=.tuple #[.int .i64 (me k x),.int .i64 0]/\θ w w'):=by
 have dq:ki (some x):=⟨by omega,by omega⟩;have dg:=(OR eo x).2 I;rw[KQ]at dg;simp only[kH,pJ]at dg;apply ze.ok;unfold ze.main;rintro ε δ rfl rfl;have γ:=μ.new (w:=w) (two s k) b5;have xJ:=θ.alloc w (.cells (two s k).toArray b5);have aM:w.alloc (.cells #[.int .i64 s,.int .i64 k] b5)=w.alloc (.cells (two s k).toArray b5):=rfl;rw[aM];generalize w.alloc (.cells (two s k).toArray b5)=δ at γ xJ⊢;refine⟨(two s k).toArray,rfl,γ.cells,?_⟩;refine κ.use (Jf s k _) ?_;rintro _ υ ⟨rfl,η⟩;rw[uQ.2 eo]
 try dsimp only[bH]
 rw[cond_neg (by decide)];refine⟨k,(γ.ex η).at (by rfl),?_⟩;refine κ.use (Rj (some x) dq k (by omega) υ) ?_;rintro _ _ ⟨rfl,rfl⟩;rw[JW,aY I.2];have e:(bt.v64 [(x.1:Int)*k+x.2,0]).toArray=#[.int .i64 ((x.1:Int)*k+x.2),.int .i64 0]:=rfl;rw[e]
 try dsimp only[bZ,cC,cD,bj,bH]
 rw[cond_neg (by decide)];have hp:=Lr eo;have hm:=JV (k:=k) (a:=x.1) dq.1 (by omega);refine⟨s,(γ.ex η).at (by rfl),k,(γ.ex η).at (by rfl),?_⟩;rw[b3 (x:=s*k) (by omega) (by omega)];rw[iM (by omega),b3 (by omega) (by omega)];exact φ.mk ⟨rfl,xJ.trans η⟩
section
variable{w:World}{pp pd:Nat}{m:aK}{xs:List (bG.cg×Int)}{aj:Int}{D:a1}
theorem fi.at{q:vz}{c8 dy db:a1}(h:fi w pp pd q c8 dy db m xs aj){j:Nat}{v:Value}(χ:(ma pd q m)[j]?=some v):w.cell? (⟨pp,j,none⟩:Addr)=some v:=h.cell.at χ
theorem fi.wA{q:vz}{c8 dy db:a1}(h:fi w pp pd q c8 dy db m xs aj):aw w (⟨pp,2,none⟩:Addr) (two m.s m.k).toArray.toList:=by
 have:=a8.take (w:=w) (a:=some _) (aw.drop (w:=w) (a:=(⟨pp,0,none⟩:Addr)) h.cell.cells 2) 2
 rw[dF]at this;exact this
theorem M1(h:hj w pp pd m xs aj D)(ok:∀e∈m.R,lN e):Fv.C (some ⟨pp,0,none⟩) w (φ λv w'=>∃ps,v=.agg (bN m.R ps).toArray/\fy w' m.R ps/\θ w w'):=by
 obtain⟨q,c8,dy,db,h,b1⟩:=h;apply Fv.ok;unfold Fv.main;refine A3 (θ.refl w) λε δ eb aM ζ yt ρ=>?_;rw[cond_neg (by rfl)]
 try dsimp only[bj]
 simp only[dF];refine⟨_,(h.ex ζ).at (j:=4) rfl,?_⟩;refine κ.use (ajG (h.ex ζ).lu ok) ?_;rintro _ aa ⟨ps,rfl,b0,ab⟩
 try dsimp only[hz]
 refine κ.use (XD b0.at) ?_;rintro _ aG ⟨tl,rfl,n5,al⟩
 try dsimp only[hz,iG]
 have ρ:=(ρ.ex ab).ex al;refine aW (by rw[fp];exact n5.at.dX) (ρ.put (cs:=bN m.R tl) n5.at.dX n5.at.one λbk hK eM=>⟨_,by rw[fp];exact n5.at.dX,eM.cells,φ.mk ⟨tl,rfl,n5.cI hK bX (λi o=>o▸(ρ.typed rfl).1) (by decide),((ζ.trans ab).trans al).then hK λi o=>by omega⟩⟩)
theorem amg(a b c d:Int)(r i:Nat):Instr.fill (λi=>some (i*5,5)) (madeCells #[(Value.int .i64 0),(Value.int .i64 0),(Value.int .i64 0),(Value.int .i64 0),(Value.complex .f64 0 0)] (1*5)) [(0,(Value.agg #[.int .i64 a,.int .i64 b,.int .i64 c,.int .i64 d,.complex .f64 r i]))]=some #[.int .i64 a,.int .i64 b,.int .i64 c,.int .i64 d,.complex .f64 r i]:=
 NS 5 _ _ (by simp[madeCells]) rfl
theorem K6(h:hj w pp pd m xs aj D)(d:fC)(ar:m.dl.length<=100000000):Fy.C (some ⟨pp,0,none⟩) d.k d.v d.γ d.b (dB.cw d.x) (dB.cw d.y) w (φ λv w'=>v=.tuple #[]/\∃bb,dQ w D w' pp pd (o2 m d) xs aj bb):=by
 obtain⟨q,c8,dy,db,h,b1⟩:=h;apply Fy.ok;unfold Fy.main;rintro ε δ eb rfl;have ρ:=μ.new (w:=w) d.cells ft;rw[<-eb]at ρ;have ζ:=θ.alloc w (.cells d.cells.toArray ft);have aM:w.alloc (.cells #[.int .i64 d.k,.int .i64 d.v,.int .i64 d.γ,.int .i64 d.b,.complex .f64 (dB.cw d.x) (dB.cw d.y)] ft)=w.alloc (.cells d.cells.toArray ft):=rfl;rw[aM];generalize w.alloc (.cells d.cells.toArray ft)=δ at ρ ζ⊢
 try dsimp only[bj]
 have eH:=ζ.trans (θ.drew δ);have ρ:=ρ.ex (θ.drew δ);simp only[dF];refine⟨_,_,_,(h.ex eH).at (j:=8) rfl,d.cells.toArray,rfl,ρ.cells,?_⟩;have SG:=amg d.k d.v d.γ d.b (dB.cw d.x) (dB.cw d.y);refine gK SG ?_;rintro ι υ ee rfl;have τ:=θ.alloc δ.drew (.cells d.cells.toArray ft);have c2:a8 (δ.drew.alloc (.cells d.cells.toArray ft)) (some ⟨δ.drew.heap.size,0,none⟩) d.cells:=a8.alloc _ ft;rw[<-ee]at c2;have bz:δ.drew.alloc (.cells #[.int .i64 d.k,.int .i64 d.v,.int .i64 d.γ,.int .i64 d.b,.complex .f64 (dB.cw d.x) (dB.cw d.y)] ft)=δ.drew.alloc (.cells d.cells.toArray ft):=rfl;rw[bz];generalize δ.drew.alloc (.cells d.cells.toArray ft)=υ at τ c2⊢;have fM:=eH.trans τ;have η:=h.ex fM;refine⟨η.at (j:=8) rfl,?_⟩;refine By η.dl (da _) d.cells c2 rfl cells_one rfl (by omega) (by omega) λbl bJ aa bu b7 na=>?_;have dg:∀i,(∃x,q.Af=some x/\x.block=i)->hF υ ajQ i:=λi⟨x,I,o⟩=>⟨_,by simp,o▸(η.dl.typed I).1⟩;have ayc:=dg;have j0:=gX b7 dg η.cell (by decide);refine j0.dj (j:=8) (v:=.slice bl (m.dl.length+1) bJ) (by omega) rfl λax cp cm=>?_;have SL:hF aa Bv pp:=⟨_,by simp,(j0.typed rfl).1⟩;have Hu:∀i,i=pp->hF aa Bv i:=λi o=>o▸SL;have hlen:(m.dl++[d]).length=m.dl.length+1:=by simp
 have aoB:(ma pd q m).set 8 (.slice bl (m.dl.length+1) bJ)=ma pd {q with Af:=bl,dc:=bJ} {m with dl:=m.dl++[d]}:=by rw[<-hlen];rfl
 rw[aoB]at cm;refine cm.dj (j:=9) (v:=.bool true) (by omega) rfl λaG ea cz=>?_;rw[arU]at cz;have EV:=cp.gr ea;have aq7:μ aa 0 ft 5 bl (m.dl++[d]).length bJ (jK (m.dl++[d])):=by
  rw[hlen,JO]
  have:jK [d]=d.cells:=by simp[jK]
  rw[this];exact bu
 have bf:fi aG pp pd {q with Af:=bl,dc:=bJ} c8 dy db (o2 m d) xs aj:=
  ⟨cz,vR EV Hu (vR b7 dg η.gate (by decide) (by decide)) (by decide) (by decide),vM EV Hu (vM b7 dg η.dev (by decide)) (by decide),wH EV Hu (wH b7 dg η.lu (by decide) (by decide)) (by decide) (by decide),zq EV Hu (zq b7 dg η.st (by decide)) (by decide),gX EV Hu aq7 (by decide),gX EV Hu (gX b7 dg η.stamps (by decide)) (by decide),η.apart⟩
 refine φ.mk ⟨rfl,_,fi.iC b1 bf (Kp.trans ((fM.aC _).gr (b7.mono λi _ o=>.inr (.inr (.inr (.inr (.inr (.inl o))))))) EV (λ_ _ h=>h) λi _ o=>.inl o) λi o=>?_⟩;rcases o with o|o|o|o|o|⟨x,I,o⟩|o
 ·exact .inl (.inl o)
 ·exact .inl (.inr (.inl o))
 ·exact .inl (.inr (.inr (.inl o)))
 ·exact .inl (.inr (.inr (.inr (.inl o))))
 ·exact .inl (.inr (.inr (.inr (.inr (.inl o)))))
 ·rcases na with e|e
  ·subst e;exact .inl (.inr (.inr (.inr (.inr (.inr (.inl ⟨x,I,o⟩))))))
  ·have:=e x I
   have:=fM.size
   exact .inr (by omega)
 ·exact .inl (.inr (.inr (.inr (.inr (.inr (.inr o))))))
end
section
variable{w:World}{pp pd:Nat}{m:aK}{xs:List (bG.cg×Int)}{aj:Int}{D:a1}
theorem Z6{a:Int}{n:Nat}(h:(n:Int)=a):bs.cw a=j7 n:=by unfold bs.cw j7;rw[h]
theorem Ct(h:hj w pp pd m xs aj D)(ω:nT m)(ae:sC m){U:List di}(ji:Bu m.st U){k:Int}(hk:0<=k)(σ:bs.room m.st k=true)(b0:m.stamps.length=m.s.toNat)(an:m.d.loose.length<=1000000){B:Nat}{p:J}{c:Nat}{bF:ao}(γ:μ w B cG 1 p 64 c (bg bF))(ψ:bh.kP bF):
  Fz.C (some ⟨pp,0,none⟩) p 64 c k w (φ λv w'=>v=dT (some (ga m bF k).2)/\∃bb,dQ w D w' pp pd (ga m bF k).1 xs aj bb):=by
 have dI:=Ps ω ji hk σ bF;have bL:=ω.gG;obtain⟨q,c8,dy,db,h,b1⟩:=h;apply Fz.ok;unfold Fz.main
 try dsimp only[bj]
 simp only[dF];refine⟨_,h.at (j:=5) rfl,?_⟩;refine κ.use (bs.ajf h.st ω.e8 (da _) k) ?_;rintro _ δ ⟨rfl,aP⟩;have Oy:(bs.next m.st k).2.1=0:=by unfold bs.next;rw[aN (by omega),aY σ]
 obtain⟨t1,t2,t3,t4,t5⟩:=bs.QC ω.e8 hk σ;have hp:(ga m bF k).2=((bs.next m.st k).2.2.1.toNat,(bs.next m.st k).2.2.2.toNat):=rfl;have B4:(ga m bF k).1={m with st:=(bs.next m.st k).1,d:=bh.dj m.d (me m.k (ga m bF k).2) bF,stamps:=m.stamps.set (ga m bF k).2.1 m.clock}:=rfl;have aoa:0<=(bs.next m.st k).2.2.1:=by unfold bs.next;rw[aN (by omega),aY σ];exact t2
 have HH:0<=(bs.next m.st k).2.2.2:=by unfold bs.next;rw[aN (by omega),aY σ];exact t1.used.1
 have cS:bs.cw (bs.next m.st k).2.2.1=eI (some (ga m bF k).2):=Z6 (by rw[hp];exact LF aoa);have fX:bs.cw (bs.next m.st k).2.2.2=eQ (some (ga m bF k).2):=Z6 (by rw[hp];exact LF HH);rw[Oy,cS,fX];rw[B4];have UJ:=dI.lt;generalize(ga m bF k).2=x at UJ⊢
 try dsimp only[bZ,cC,cD,bj,bH,rH]
 obtain⟨awV,h1,aZ,s1⟩:=h.aeV aP;have asc:=fi.iC b1 h1 aZ s1;have aq8:∀{e:TypeId}{sz n aT B':Nat}{bU:J}{vs:aU},μ w B' e sz bU n aT vs->e∉nV->μ δ B' e sz bU n aT vs:=λγ ar=>gX aZ (λi o=>(h.fV o).1) γ ar;have ρ:=aq8 γ (by decide);refine jz (λ_=>?_) λh=>absurd rfl h
 try dsimp only[bZ]
 refine⟨(two m.s m.k).toArray,rfl,h1.wA,?_⟩;refine κ.use (Q5 bL UJ δ) ?_;rintro _ aG ⟨rfl,al⟩
 try dsimp only[bZ,cC,cD,bj,bH]
 have c9:=h1.ex al;refine⟨_,c9.at (j:=1) rfl,?_⟩;have axC:sC {m with st:=(bs.next m.st k).1}:=⟨ae.dev,ae.off,ae.after,ae.mA⟩;have sU:hi aG dy aG 0 pd m.d dy 1000000:=hi.start c9.dev ae.dev ae.off ae.after (E3 ω ae) an (da _);have qg:=F1 bL UJ;have xz:=ae.mA;refine sU.put (by omega) (i:=me m.k x) ⟨by omega,by omega⟩ (bh.np.Cp c9.dev (ρ.ex al) (by decide) (by decide) (by decide)) ψ λb9 aiF UD fN=>?_
 try dsimp only[bH]
 obtain⟨awT,dr,apM,as5⟩:=c9.Qe UD.done;have asj:=(asc.ex al).trans (fi.iC (λi=>nh) dr apM as5);refine jz (λ_=>?_) λh=>absurd rfl h
 try dsimp only[bZ]
 have eH:=θ.drew b9;have kD:=dr.ex eH;have Ig:=asj.ex eH;generalize b9.drew=ca at kD Ig⊢;refine⟨_,_,_,kD.at (j:=11) rfl,?_⟩;have rK:x.1<=24:=by omega
 refine gK (Cl (n:=x.1) rK).2.2.2.1 (aW (by rw[HL];omega) (aW (by rw[we];omega) ?_));refine⟨_,kD.at (j:=10) rfl,aW (by omega) (aW (by dsimp only;omega) ?_)⟩;rw[cP,eG]
 try dsimp only[bj]
 rw[dF];refine kD.atJ (j:=x.1) (by dsimp only;omega) _ λcn Eg AA=>?_;refine φ.mk ⟨rfl,_,Ig.trans (fi.iC (λi=>nh) Eg AA λi o=>.inl o)⟩
theorem Iy(h:hj w pp pd m xs aj D)(o:Inv m)(v b k s:Int)(p:J)(n c:Nat){Z:Value->ai}{X:List PanicEntry->ai}
  (dx:∀bF w' q aT,θ w w'->μ w' 0 cG 1 q 64 aT (bg bF)->(∃e,gd m.R v=some e/\0<=b/\b<e.2.1/\bF=(match(e.2.2[b.toNat]?).join with|none=>bh.hR|some x=>gO m.k m.d x))->Z (.slice q 64 aT) w')
  (eE:∀e w',θ w w'->e≠0->((gd m.R v=none/\e=4)\/∃x,gd m.R v=some x/\(b<0\/x.2.1<=b)/\e=5)->X (yK e) w'):
  κ prog 78 #[.pointer (some ⟨pp,0,none⟩),.agg #[.int .i64 k,.int .i64 v,.int .i64 b,.int .i64 s,.slice p n c]] w Z X:=by
 obtain⟨f1,f2,f3⟩:=(lJ o.gG).1 o.fit;obtain⟨q,c8,dy,db,h,b1⟩:=h;show FA.C (some ⟨pp,0,none⟩) k v b s p n c w _;apply FA.ok;unfold FA.main;rintro ε δ eb rfl;have ρ:=μ.new (w:=w) [.int .i64 k,.int .i64 v,.int .i64 b,.int .i64 s,.slice p n c] ev;rw[<-eb]at ρ;have ζ:=θ.alloc w (.cells #[.int .i64 k,.int .i64 v,.int .i64 b,.int .i64 s,.slice p n c] ev);generalize w.alloc (.cells #[.int .i64 k,.int .i64 v,.int .i64 b,.int .i64 s,.slice p n c] ev)=δ at ρ ζ⊢
 try dsimp only[bj]
 have eH:=ζ.trans (θ.drew δ);have ρ:=ρ.ex (θ.drew δ);generalize δ.drew=υ at eH ρ⊢;simp only[dF];refine⟨_,(h.ex eH).at (j:=4) rfl,_,ρ.at (j:=1) rfl,_,ρ.at (j:=2) rfl,?_⟩;refine κ.use (aiW (h.ex eH).lu f1 v b) ?_;rintro _ aa ⟨rfl,ab⟩;have hS:=eH.trans ab;unfold S7;have jL:=@Ah m.R v;cases he:gd m.R v with
 |none=>
  try dsimp only[bZ,cC,cD,mY,bj,bH,dH,rH]
  exact jz (λh=>by cases h) λh=>eE 4 aa hS h (.inl ⟨he,rfl⟩)
 |some e=>
  dsimp only;by_cases ω:0<=b/\b<e.2.1
  ·rw[aY ω];obtain⟨v0,ayq,aL,hk⟩:=jL he;have ed:=f1 e (eS aL);have hlen:b.toNat<e.2.2.length:=by have:=ed.1;omega
   have mZ:e.2.2.getD b.toNat none=e.2.2[b.toNat]:=by rw[List.getD_eq_getElem?_getD,List.getElem?_eq_getElem hlen];rfl
   have abg:(e.2.2[b.toNat]?).join=e.2.2[b.toNat]:=by rw[List.getElem?_eq_getElem hlen];rfl
   rw[mZ];cases ay:e.2.2[b.toNat]with
   |none=>
    unfold Hi
    try dsimp only[bZ,cC,cD,mY,bj,bH,dH,rH]
    refine jz (λ_=>?_) λh=>absurd rfl h
    try dsimp only[bZ]
    rw[cond_pos (by rfl)];rintro aH ba jc rfl;have em:madeCells #[Value.int .u8 0] (64*1)=(bg bh.hR).toArray:=by
     have:=E4 1 64 (Value.int .u8 0) (by decide)
     exact this
    rw[em];have bS:=μ.alloc (w:=aa) (bg bh.hR) cG 1 64 rfl;rw[jc];exact dx _ _ _ _ (hS.trans (θ.alloc aa _)) (bS.lower (da _)) ⟨e,he,ω.1,ω.2,by rw[abg,ay]⟩
   |some x=>
    have Cd:x∈used m.R:=wi.2 ⟨e,eS aL,ay▸hN hlen⟩;have I:=f2 x Cd;unfold Hi dT
    try dsimp only[bZ,cC,cD,mY,bj,bH,dH,rH]
    refine jz (λ_=>?_) λh=>absurd rfl h
    try dsimp only[bZ]
    rw[cond_neg (by rfl)];have au:=h.ex hS;refine⟨(two m.s m.k).toArray,rfl,au.wA,?_⟩;refine κ.use (Q5 o.gG I aa) ?_;rintro _ bk ⟨rfl,aV⟩
    try dsimp only[bZ,cC,cD,bj,bH]
    have h7:=au.ex aV;refine⟨_,h7.at (j:=1) rfl,?_⟩;have qg:=F1 o.gG I;have xz:=o.mA;obtain⟨TS,aa9⟩:=Wo o.base o.xl I;refine κ.use (bh.Bo h7.dev o.dev (me m.k x)) ?_;rintro _ ca ⟨cv,σ⟩;have s4:bh.vT m.d (me m.k x)=0:=by unfold bh.vT;rw[aN (by rw[o.off];simp),aN (by omega)]
    obtain⟨_,bl,bJ,pK,HF,rfl,bu⟩:=σ.resolve_left λh=>h.1 s4
    try dsimp only[bZ,cC,cD,bj,bH,er]
    refine jz (λ_=>?_) λh=>absurd rfl h
    try dsimp only[bZ]
    rw[TS]at HF;cases HF;exact dx _ _ _ _ ((hS.trans aV).trans cv) (bu.lower (da _)) ⟨e,he,ω.1,ω.2,by rw[abg,ay]⟩
  ·rw[aN ω]
   try dsimp only[bZ,cC,cD,mY,bj,bH,dH,rH]
   exact jz (λh=>by cases h) λh=>eE 5 aa hS h (.inr ⟨e,he,by omega,rfl⟩)
end
theorem WA{w w':World}{S:a1}{T:List Nat}(k:Kp w w' S)(ed:∀i,S i->hF w T i){R:bW}{ps:aU}(h:fy w R ps)(ar:eA∉T):fy w' R ps:=
 h.aC k λi aO _ o=>(ed i o).off aO ar
theorem aah(x:Int):∀(l:ao)(st:bs.hv),Aj st (l++[x])=(bs.nZ (Aj st l) x).1
 |[],st=>rfl
 |y::l,st=>by show Aj (bs.nZ st y).1 (l++[x])=_;rw[aah x l];rfl
section
variable{w:World}{pp pd:Nat}{m:aK}{xs:List (bG.cg×Int)}{aj:Int}{D:a1}
theorem dQ.at_{w0:World}{dY:a1}(h:dQ w0 dY w pp pd m xs aj D):∃q c8 dy db,fi w pp pd q c8 dy db m xs aj/\∀i,D i↔jS pp q c8 dy db i:=h.is
theorem dQ.L2{δ:World}{e5:a1}{m1:aK}{w6:List (bG.cg×Int)}{wY:Int}(h:dQ w D δ pp pd m1 w6 wY e5)(aF:hj w pp pd m xs aj D){R:bW}{ps:aU}(s:fy w R ps):fy δ R ps:=
 WA h.aC (λi o=>(aF.fV o).1) s (by decide)
theorem S0{q:vz}{c8 dy db:a1}(h:fi w pp pd q c8 dy db m xs aj)(ω:nT m)(ae:sC m){N:Value->ai}{X:List PanicEntry->ai}{D:a1}(b1:∀i,D i↔jS pp q c8 dy db i)
  (K:∀w' qK,fi w' pp pd q c8 qK db {m with d:=kV m.d} xs aj->dQ w D w' pp pd {m with d:=kV m.d} xs aj (jS pp q c8 qK db)->N (.int .i64 0) w'):
  κ prog 57 #[.pointer (some ⟨pd,0,none⟩)] w N X:=by
 have sU:hi w dy w 0 pd m.d dy m.d.loose.length:=hi.start h.dev ae.dev ae.off ae.after (E3 ω ae) (eF _) (da _);refine sU.flush λw' bb aL k'=>?_;obtain⟨qK,eX,k,s⟩:=h.Qe aL.done;exact K w' qK eX (fi.iC b1 eX k s)
theorem ZD(ae:sC m):sC {m with d:=kV m.d}:=⟨aab ae.dev,ae.off,ae.after,ae.mA⟩
theorem akH{w0:World}{dY:a1}{m1:aK}(bL:bs.Good m1.st){B:Nat}{p:J}{n c:Nat}{L:ao}(lZ:L.length=n)(ar:n<=1000){δ:World}{e5:a1}(h:dQ w0 dY δ pp pd m1 xs aj e5)(γ:μ δ B ck 1 p n c (bs.cK L))(hp:∀x,p=some x->¬e5 x.block){Z:Value->ai}
  (dx:∀w' bb,dQ w0 dY w' pp pd {m1 with st:=Aj m1.st L} xs aj bb->Z (.tuple #[]) w'):
  oi.bd (some ⟨pp,0,none⟩) p n c (n:Int) 0 δ (φ Z):=by
 unfold oi.bd;refine⟨λt0 Qu Qt WL t76 t77 W=>some ⟨pp,0,none⟩=t0/\p=Qu/\n=Qt/\(n:Int)=t76/\0<=t77/\t77<=n/\μ W B ck 1 p n c (bs.cK L)/\∃bb,dQ w0 dY W pp pd {m1 with st:=Aj m1.st (L.take t77.toNat)} xs aj bb/\∀x,p=some x->¬bb x.block,
  λ_ _ _ _ _ t77 _=>(n-t77).toNat,⟨rfl,rfl,rfl,rfl,by omega,by omega,γ,e5,h,hp⟩,?_⟩
 rintro _ _ _ WL _ t77 W ⟨rfl,rfl,rfl,rfl,aF,h1,γ,bb,h,hp⟩;unfold oi.ε;obtain⟨j,rfl⟩:=eR aF;rw[cP]at h;refine bA (λχ=>?_) λχ=>?_
 ·have χ:=cd χ;have e3:j<L.length:=by omega
  refine aW (by omega) (aW (by omega) ?_);obtain⟨a,rfl,r⟩:=γ.cells.many (bs.uL (List.getElem?_eq_getElem e3))
  try dsimp only[bj]
  rw[cP,eG];refine⟨_,r,?_⟩;obtain⟨q,c8,dy,db,ay,b1⟩:=h.at_
  try simp only[dF]
  refine⟨_,ay.at (j:=5) rfl,?_⟩;have an8:=(S1 (L.take j) bL).e8;refine κ.use (bs.XR ay.st an8 (da _) L[j]) ?_;rintro _ fT ⟨rfl,aP⟩
  try dsimp only[bH]
  obtain⟨vu,η,bP,s2⟩:=ay.aeV aP;have uZ:=fi.iC b1 η bP s2;rw[b3 (x:=(j:Int)+1) (by omega) (by omega)];have aM:((j:Int)+1).toNat=j+1:=by omega
  have sV:L.take (j+1)=L.take j++[L[j]]:=lq e3;refine⟨⟨by trivial,by trivial,by trivial,by trivial,by omega,by omega,γ.aC uZ.aC λx I=>hp x I,_,?_,λx I=>uZ.aqM (hp x I) (γ.ge I).2⟩,by((try dsimp only);omega)⟩;rw[aM,sV,aah];exact h.trans uZ
 ·have χ:=dh χ;obtain rfl:j=n:=by omega
  rw[hr (by omega)]at h;exact φ.mk (dx W bb h)
theorem Np(h:hj w pp pd m xs aj D)(hm:xb m)(ay:m.seq+1<=1073741824)(an:m.d.loose.length<=1000000):oi.C (some ⟨pp,0,none⟩) w (φ λv w'=>v=.tuple #[]/\∃bb,dQ w D w' pp pd (qS m) xs aj bb):=by
 have EK:=hm.seq;have Kl:=hm.base.gG;apply oi.ok;unfold oi.main;obtain⟨q,c8,dy,db,h,b1⟩:=h
 try dsimp only[bj]
 try simp only[dF]
 refine⟨m.seq,h.at (j:=6) rfl,?_⟩;rw[cond_neg (by simp;omega)];unfold oi.aZ;refine κ.use (M1 ⟨q,c8,dy,db,h,b1⟩ hm.ok) ?_;rintro _ aa ⟨ps,rfl,b0,ab⟩
 try dsimp only[bj,hz,iG]
 refine A3 ab λε aG eb ig al ns cz=>?_;have b0:=b0.ex al;refine aW (by rw[fp];exact b0.at.dX) (cz.put (cs:=bN m.R ps) b0.at.dX b0.at.one λba dP bS=>?_);have b0:=b0.cI dP bX (λi o=>o▸(cz.typed rfl).1) (by decide);have kB:θ w ba:=ns.then dP λi o=>by omega
 clear cz al ab;have iv:=h.ex kB
 try simp only[dF]
 refine⟨_,iv.at (j:=1) rfl,?_⟩;refine S0 iv hm.base hm.dev b1 λbk Bk h7 zj=>?_
 try dsimp only[bH]
 have J4:∀i,jS pp q c8 Bk db i↔jS pp q c8 Bk db i:=λi=>nh;have ab4:hj ba pp pd m xs aj D:=⟨q,c8,dy,db,iv,b1⟩;have eM:=zj.c0 ab4 bS (by decide);have Qd:=zj.L2 ab4 b0;refine jz (λ_=>?_) λh=>absurd rfl h
 try dsimp only[bZ]
 have eH:=θ.drew bk;have kD:=h7.ex eH;have jm:=eM.ex eH;have LZ:=Qd.ex eH;have Ig:=((dQ.start ⟨q,c8,dy,db,h,b1⟩).ex kB).trans (zj.ex eH);clear eM Qd zj bS b0;generalize bk.drew=ca at kD jm LZ Ig⊢
 try simp only[dF]
 refine⟨_,kD.at (j:=1) rfl,(bN m.R ps).toArray,by rw[fp];exact LZ.at.dX,jm.cells,(two m.s m.k).toArray,rfl,kD.wA,_,kD.at (j:=6) rfl,?_⟩;rw[b3 (x:=m.seq+1) (by omega) (by omega)];have B2:=ZD hm.dev;have sU:hi ca Bk ca 0 pd (kV m.d) Bk 0:=hi.start kD.dev B2.dev B2.off B2.after (E3 (m:={m with d:=kV m.d}) ⟨hm.base.gG,hm.base.e8,hm.base.gT,hm.base.blocks⟩ B2) (eF _) (da _);refine κ.use (X9 sU (by omega) LZ.at ⟨by omega,ay⟩ hm.fit) ?_;rintro _ cH ⟨rfl,XH,apj⟩
 try dsimp only[bH]
 obtain⟨Rg,oP,s9,as2⟩:=kD.Qe apj.done;have Pv:dQ ca (jS pp q c8 Bk db) cH pp pd _ xs aj _:=fi.iC (λi=>nh) oP s9 as2;have UR:hj ca pp pd _ xs aj (jS pp q c8 Bk db):=⟨q,c8,Bk,db,kD,λi=>nh⟩;have r2:=Pv.c0 UR jm (by decide);have aeN:=Pv.L2 UR LZ;have Ic:=Ig.trans Pv;clear jm LZ Ig Pv UR;refine jz (λ_=>?_) λh=>absurd rfl h
 try dsimp only[bZ]
 try simp only[dF]
 refine⟨_,oP.at (j:=6) rfl,?_⟩;rw[b3 (x:=_+1) (by dsimp only;omega) (by dsimp only;omega)];refine oP.put 6 (by omega) rfl λep rW tg=>?_;rw[arT]at tg;refine tg.dj (j:=7) (v:=.int .i64 0) (by omega) rfl λeO ta r4=>?_;have BN:=adJ (pd:=pd) (q:=q) (m:={{m with d:=u5 (kV m.d) m.s m.k (m.seq+1) m.R}with seq:=m.seq+1}) 0;have r4:=(show _=ma pd q _ from BN)▸r4;refine r4.dj (j:=8) (v:=.slice none 0 0) (by omega) rfl λgP KS Cn=>?_;refine Cn.dj (j:=9) (v:=.bool false) (by omega) rfl λgj y6 pG=>?_;have Bp:=((rW.gr ta).gr KS).gr y6;have dg:∀i,i=pp->hF cH Bv i:=λi o=>o▸⟨_,by simp,(oP.cell.typed rfl).1⟩;have N5:fi gj pp pd {q with Af:=none,dc:=0} c8 Rg db {m with d:=u5 (kV m.d) m.s m.k (m.seq+1) m.R,seq:=m.seq+1,used:=0,dl:=[],lB:=false} xs aj:=
  ⟨pG,vR Bp dg oP.gate (by decide) (by decide),vM Bp dg oP.dev (by decide),wH Bp dg oP.lu (by decide) (by decide),zq Bp dg oP.st (by decide),μ.nil _ _ _ _,gX Bp dg oP.stamps (by decide),oP.apart⟩
 have adV:dQ cH (jS pp q c8 Rg db) gj pp pd _ xs aj _:=fi.iC (λi=>nh) N5 (Bp.mono λi _ o=>.inl o) λi o=>by
  rcases o with o|o|o|o|o|⟨x,I,o⟩|o
  ·exact .inl (.inl o)
  ·exact .inl (.inr (.inl o))
  ·exact .inl (.inr (.inr (.inl o)))
  ·exact .inl (.inr (.inr (.inr (.inl o))))
  ·exact .inl (.inr (.inr (.inr (.inr (.inl o)))))
  ·cases I
  ·exact .inl (.inr (.inr (.inr (.inr (.inr (.inr o))))))
 have acT:=gX Bp dg r2 (by decide);have aeO:=WA Bp dg aeN (by decide);have adW:=Ic.trans adV;clear r2 aeN Ic adV tg r4 Cn pG rW ta KS y6;refine⟨_,N5.at (j:=5) rfl,?_⟩;refine κ.use (bs.XS N5.st hm.base.e8) ?_;rintro _ fF ⟨oz,ej,fU,rfl,_⟩
 try dsimp only[bZ,cC,cD,bj,bH,er]
 have eH:=oz.trans (θ.drew fF);have o4:=acT.ex eH;have Wx:=aeO.ex eH;have BU:=N5.ex eH;have adX:=adW.ex eH;clear acT aeO adW;generalize fF.drew=eK at o4 Wx BU adX eH⊢
 try simp only[dF]
 refine⟨(bN m.R ps).toArray,by rw[fp];exact Wx.at.dX,o4.cells,(two m.s m.k).toArray,rfl,BU.wA,?_⟩;rintro ι fY ee rfl;have az:=μ.new (w:=eK) [.int .i64 m.st.head] ck;rw[<-ee]at az;have Bg:=θ.alloc eK (.cells #[.int .i64 m.st.head] ck);generalize eK.alloc (.cells #[.int .i64 m.st.head] ck)=fY at az Bg⊢;have l9:=o4.ex Bg;have aeP:=Wx.ex Bg;have aav:=BU.ex Bg;have ase:=adX.ex Bg;refine aW rfl ⟨aav.wA,aW (by rw[fp];exact aeP.at.dX) ⟨l9.cells,?_⟩⟩;have Ar:(gB (used m.R)).length<=4096:=by
  have h1:=((lJ Kl).1 hm.fit).2.2
  have:(m.s-4)*m.k<=20*16:=se (by omega) (by omega) (by omega) (by omega)
  have η:(gB (used m.R)).length=iP m.R:=rfl;omega
 refine κ.use (Rk (but:=[m.st.head]) aeP.at hm.fit.1 Ar az.cells rfl (by omega)) ?_;rintro _ fb ⟨fD,h2,rfl,nN,AL⟩
 try dsimp only[bZ,cC,cD,bj,bH,er]
 have Ie:=ase.ex nN;have ny:∀x,fD=some x->¬jS pp {q with Af:=none,dc:=0} c8 Rg db x.block:=λx I bf=>by
  have:=(AL.ge I).1
  have:=(aav.fV bf).2
  omega
 have vZ:=S2 m.s.toNat (lays (used m.R)) [m.st.head];refine akH (m1:={m with d:=u5 (kV m.d) m.s m.k (m.seq+1) m.R,seq:=m.seq+1,used:=0,dl:=[],lB:=false}) hm.base.e8 rfl (by omega) Ie AL ny λw' bb hp=>⟨rfl,bb,hp⟩
end
section
variable{w:World}{pp pd:Nat}{m:aK}{xs:List (bG.cg×Int)}{aj:Int}{D:a1}
theorem Y8{m':aK}(ω:nT m)(h1:m'.s=m.s)(η:m'.k=m.k)(au:m'.st=m.st):nT m':=⟨by rw[h1,η];exact ω.gG,by rw[au];exact ω.e8,by rw[au,h1];exact ω.gT,by rw[au,η];exact ω.blocks⟩
theorem atQ(h:hj w pp pd m xs aj D)(o:Inv m)(ay:m.seq+1<=1073741824)(an:m.d.loose.length<=900000)(xz:m.dl.length<=900000):FC.C (some ⟨pp,0,none⟩) w (φ λv w'=>v=.tuple #[]/\∃bb,dQ w D w' pp pd (x9 m) xs aj bb):=by
 have EK:=o.seq;have hu:=o.nn;apply FC.ok;unfold FC.main;obtain⟨q,c8,dy,db,h,b1⟩:=h;have xC:hj w pp pd m xs aj D:=⟨q,c8,dy,db,h,b1⟩
 try dsimp only[bj]
 simp only[dF];refine⟨m.lB,h.at (j:=9) rfl,?_⟩;unfold x9;cases aO:m.lB with
 |false=>
  rw[cond_pos (by rfl),aY rfl];exact φ.mk ⟨rfl,D,dQ.start xC⟩
 |true=>
  rw[cond_neg (by rfl),aN (by decide)];refine⟨_,_,_,h.at (j:=8) rfl,_,h.at (j:=7) rfl,λaZ=>?_⟩;rw[b3 (x:=16-(m.used:Int)) (by omega) (by omega),b3 (by omega) (by omega)];refine bA (λπ=>?_) λπ=>?_
  ·have π:=cd π;rw[aY (by omega)];refine κ.use (Np (xC.ex (θ.drewN w aZ)) o.wj ay (by omega)) ?_;rintro _ δ ⟨rfl,bb,hp⟩
   try dsimp only[bZ]
   exact φ.mk ⟨rfl,bb,((dQ.start xC).ex (θ.drewN w aZ)).trans hp⟩
  ·have π:=dh π;rw[aN (by omega)];have Xp:=θ.drewN w aZ;have adU:=(dQ.start xC).ex Xp;have h:=h.ex Xp;generalize w.drewN aZ=w0 at Xp adU h⊢;refine⟨_,h.at (j:=1) rfl,?_⟩;refine S0 h o.base o.xl b1 λaa Jh au q4=>?_
   try dsimp only[bH]
   refine jz (λ_=>?_) λh=>absurd rfl h
   try dsimp only[bZ]
   have eH:=θ.drew aa;have c9:=au.ex eH;have adY:=adU.trans (q4.ex eH);generalize aa.drew=aG at c9 adY⊢
   try simp only[dF]
   refine⟨_,c9.at (j:=1) rfl,_,c9.at (j:=6) rfl,_,c9.at (j:=7) rfl,_,_,_,c9.at (j:=8) rfl,?_⟩;have B2:=ZD o.xl;have axw:nT {m with d:=kV m.d}:=Y8 o.base rfl rfl rfl;have sU:hi aG Jh aG 0 pd (kV m.d) Jh 0:=hi.start c9.dev B2.dev B2.off B2.after (E3 o.base o.xl) (eF _) (da _);refine κ.use (ajw sU (by omega) (seq:=m.seq) ⟨EK,by omega⟩ (u:=m.used) c9.dl rfl (by dsimp only;omega) hu (λd ae=>(o.dl d ae).1) λd ae=>(o.dl d ae).2) ?_;rintro _ bk ⟨rfl,awR,apl⟩
   try dsimp only[bZ,cC,cD,bj,bH]
   obtain⟨Bk,h7,hK,as4⟩:=c9.Qe apl.done;have zj:=adY.trans (fi.iC (λi=>nh) h7 hK as4);refine jz (λ_=>?_) λh=>absurd rfl h
   try dsimp only[bZ]
   try simp only[dF]
   refine⟨_,h7.at (j:=1) rfl,?_⟩;have Ep:nT {m with d:=CJ (kV m.d) m.seq m.used m.dl}:=Y8 o.base rfl rfl rfl;have anG:sC {m with d:=CJ (kV m.d) m.seq m.used m.dl}:=by have low:=aeJ (iK.flush (iK.refl o.dev)) (E3 o.base o.xl) m.seq (u:=m.used) o.dl (by unfold j9;omega);exact⟨low.e8,low.off.trans o.off,low.after.trans o.after,by have:=o.mA;rw[<-low.len]at this;exact this⟩
   refine S0 h7 Ep anG (λi=>nh) λcH XH oP Ic=>?_
   try dsimp only[bH]
   have Ic:=zj.trans Ic;refine jz (λ_=>?_) λh=>absurd rfl h
   try dsimp only[bZ]
   try simp only[dF]
   refine oP.put 7 (by omega) rfl λep rW tg=>?_;rw[adJ]at tg;refine tg.dj (j:=8) (v:=.slice none 0 0) (by omega) rfl λeO ta r4=>?_;refine r4.dj (j:=9) (v:=.bool false) (by omega) rfl λgP KS Cn=>?_;have K:=(rW.gr ta).gr KS;have dg:∀i,i=pp->hF cH Bv i:=λi o=>o▸⟨_,by simp,(oP.cell.typed rfl).1⟩;have Tg:fi gP pp pd {q with Af:=none,dc:=0} c8 XH db {m with d:=kV (CJ (kV m.d) m.seq m.used m.dl),used:=m.used+j9 m.dl.length,dl:=[],lB:=false} xs aj:=
    ⟨Cn,vR K dg oP.gate (by decide) (by decide),vM K dg oP.dev (by decide),wH K dg oP.lu (by decide) (by decide),zq K dg oP.st (by decide),μ.nil _ _ _ _,gX K dg oP.stamps (by decide),oP.apart⟩
   refine φ.mk ⟨rfl,_,Ic.trans (fi.iC (λi=>nh) Tg (K.mono λi _ o=>.inl o) λi o=>?_)⟩;rcases o with o|o|o|o|o|⟨x,I,o⟩|o
   ·exact .inl (.inl o)
   ·exact .inl (.inr (.inl o))
   ·exact .inl (.inr (.inr (.inl o)))
   ·exact .inl (.inr (.inr (.inr (.inl o))))
   ·exact .inl (.inr (.inr (.inr (.inr (.inl o)))))
   ·cases I
   ·exact .inl (.inr (.inr (.inr (.inr (.inr (.inr o))))))
end
end Go.Proofs.YtcpdfhkhaekekaaGreat.G.cV
