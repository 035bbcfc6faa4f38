/- The walk of the functions, and the plain laws of the model: part of the proof. Conditions: none. -/
import Derived.Test.YtcpdfhkhaekekaaGreatA12
set_option linter.unusedVariables false
set_option linter.unusedSimpArgs false
namespace Go.Proofs.YtcpdfhkhaekekaaGreat.G.aQ
open Go.bJ Go.RowKit cF dI eI cS
structure Fr(st xG:bA.hU)(l:aq):Prop where
 fz:bA.Good xG
 hi:xG.hi=st.hi
 blocks:xG.blocks=st.blocks
 head:xG.head=st.head
 used:xG.used=st.used
 mem:∀x,x∈xG.free↔x∈st.free\/(x∈l/\0<=x/\x<st.hi/\x≠st.head)
theorem aol{st:bA.hU}(h:bA.Good st)(k:Int):Fr st (bA.o6 st k).1 [k]:=by
 have bH:=bA.ace h k;unfold bA.o6 at bH⊢;split
 ·rename_i h1;refine⟨h,rfl,rfl,rfl,rfl,λx=>⟨.inl,λJ=>J.resolve_right ?_⟩⟩;rintro⟨hm,ι,aJ,_⟩;simp only[ma]at hm;omega
 ·rename_i h1;rw[aL h1]at bH;split
  ·rename_i ι;refine⟨h,rfl,rfl,rfl,rfl,λx=>⟨.inl,?_⟩⟩;rintro(J|⟨hm,_,_,dx⟩)
   ·exact J
   ·simp only[ma]at hm;subst hm;exact ι.resolve_left dx
  ·rename_i ι;rw[aL ι]at bH;refine⟨bH,rfl,rfl,rfl,rfl,λx=>?_⟩;dsimp only;rw[bA.W4];constructor
   ·rintro(rfl|J)
    ·exact .inr ⟨List.mem_singleton_self _,by omega,by omega,λe=>ι (.inl e)⟩
    ·exact .inl J
   ·rintro(J|⟨hm,_⟩)
    ·exact .inr J
    ·exact .inl (ma.1 hm)
theorem US:∀(l:aq){st:bA.hU},bA.Good st->Fr st (Bo st l) l
 |[],st,h=>⟨h,rfl,rfl,rfl,rfl,λx=>⟨.inl,λJ=>J.resolve_right λh=>by cases h.1⟩⟩
 |k::r,st,h=>by
  have h1:=aol h k;have ι:=US r h1.fz;refine⟨ι.fz,ι.hi.trans h1.hi,ι.blocks.trans h1.blocks,ι.head.trans h1.head,ι.used.trans h1.used,λx=>?_⟩;show x∈(Bo (bA.o6 st k).1 r).free↔_;rw[ι.mem,h1.mem,h1.hi,h1.head];simp only[fB,oi,py];constructor
  ·rintro((h|h)|h)
   ·exact .inl h
   ·exact .inr ⟨.inl h.1,h.2⟩
   ·exact .inr ⟨.inr h.1,h.2⟩
  ·rintro(h|⟨h|h,aJ⟩)
   ·exact .inl (.inl h)
   ·exact .inl (.inr ⟨h,aJ⟩)
   ·exact .inr ⟨h,aJ⟩
theorem af4{l:aq}(h:bA.Ew l):l.Nodup:=List.Pairwise.imp (λ{a b}(h:a<b)=>(by omega:a≠b)) h
theorem W3{n:Nat}{V:List dB}{h x:Int}:x∈k6 n V [h]↔∃i:Nat,i<n/\x=(i:Int)/\(∀z∈V,z.1≠i)/\x≠h:=by
 unfold k6;simp only[gx,nN,lh];constructor
 ·rintro⟨i,⟨I,bm⟩,rfl⟩;unfold BL at bm;simp only[lf,Bool.not_eq_true',beq_iff_eq]at bm;refine⟨i,I,rfl,λz aI e=>?_,λe=>?_⟩
  ·have:=tu bm.1
   have hm:z∈V.filter λx=>x.1==i:=nN.2 ⟨aI,by simpa using e⟩;rw[this]at hm;cases hm
  ·have ι:=bm.2
   have:bA.has [h] (i:Int)=true:=(bA.P1 _ _).2 (by rw[e];exact List.mem_singleton_self _)
   rw[this]at ι;cases ι
 ·rintro⟨i,I,rfl,aI,b1⟩;refine⟨i,⟨I,?_⟩,rfl⟩;unfold BL;have h1:(V.filter λx=>x.1==i)=[]:=RB.2 λz hm=>by simpa using aI z hm
  have ι:bA.has [h] (i:Int)=false:=by
   cases aH:bA.has [h] (i:Int)with
   |false=>rfl
   |true=>exact absurd (ma.1 ((bA.P1 _ _).1 aH)) b1
  rw[h1,ι];rfl
theorem Jt{R:bZ}(ok:∀e∈R,mG e){x:dB}:x∈lays (used R)↔x∈used R:=Js (sB ok)
structure tP(m:aQ):Prop where
 dev:ba.Good m.d
 off:m.d.off=false
 after:m.d.after=-1
 nC:(m.d.now.length:Int)=40+m.s*m.k
theorem Inv.x8{m:aQ}(h:Inv m):tP m:=⟨h.dev,h.off,h.after,h.nC⟩
theorem at2{m:aQ}(h:o1 m):12<=m.s*m.k:=by
 have:=h.gY
 have:6*2<=m.s*m.k:=qJ this.1 this.2.2.1 (by omega) (by omega)
 omega
theorem Yi{m:aQ}(h:o1 m)(ah:tP m){x:dB}(J:(x.1:Int)<m.s/\(x.2:Int)<m.k):m.d.now[(om m.k x).toNat]?=some (hS m.k m.d x)/\ba.lx (hS m.k m.d x):=by
 have h1:=Hr h.gY J;have ι:=ah.nC;have ak:(om m.k x).toNat<m.d.now.length:=by omega
 have e:hS m.k m.d x=m.d.now[(om m.k x).toNat]:=by unfold hS;rw[List.getD_eq_getElem?_getD,List.getElem?_eq_getElem ak];rfl
 rw[e];exact⟨List.getElem?_eq_getElem ak,ah.dev.now _ (hP ak)⟩
structure S5(m m':aQ)(xs ys U:List dB):Prop where
 base:o1 m'
 dev:tP m'
 ok:CI m'.st (ys++U)
 len:ys.length=xs.length
 l9:ys.Nodup
 new:∀y∈ys,y∉U
 lt:∀y∈ys,(y.1:Int)<m.s/\(y.2:Int)<m.k
 agj:∀y∈ys,(y.1:Int)=m.st.head\/(y.1:Int)∈m.st.free
 head:m'.st.head=m.st.head\/m'.st.head∈m.st.free
 sub:∀x∈m'.st.free,x∈m.st.free
 old:∀z:dB,(z.1:Int)<m.s/\(z.2:Int)<m.k->z∉ys->hS m.k m'.d z=hS m.k m.d z
 sec:ys.map (hS m.k m'.d)=xs.map (hS m.k m.d)
 s:m'.s=m.s
 k:m'.k=m.k
 R:m'.R=m.R
 dl:m'.dl=m.dl
 seq:m'.seq=m.seq
 ot:m'.used=m.used
 clock:m'.clock=m.clock
 mm:m'.mm=m.mm
 pA:m'.stamps.length=m.stamps.length
 rR:(∀t∈m.stamps,0<=t/\t<=m.clock)->0<=m.clock->∀t∈m'.stamps,0<=t/\t<=m.clock
 loose:m'.d.loose.length=m.d.loose.length+xs.length
 gC:1<=m'.st.free.length
 two:bA.full m.st=false->m.st.used+xs.length<=m.k->m'.st.free.length=m.st.free.length
 aeG:(bA.full m.st=true/\xs≠[])\/(0<=m.st.head/\m.st.used+xs.length<m.k)->bA.full m'.st=false
theorem PL{m:aQ}(h:o1 m):bA.full m.st=false↔0<=m.st.head/\m.st.used<m.k:=by
 unfold bA.full;have h1:=h.fz.used;have ι:=h.blocks;rw[Rl,Ni];constructor
 ·rintro⟨a,b⟩
  have:m.st.used≠m.st.blocks:=by simpa using b
  omega
 ·rintro⟨a,b⟩;refine⟨by omega,?_⟩
  have:m.st.used≠m.st.blocks:=by omega
  simpa using this
theorem af6{m:aQ}(h:1<=m.st.free.length\/bA.full m.st=false):bA.room m.st 0=true:=by
 unfold bA.room;rcases h with h|h
 ·simp;right;omega
 ·simp[h]
theorem OW.dev{m m':aQ}{x:dB}{bs:aq}{U:List dB}(h:OW m m' x bs U)(τ:o1 m)(ah:tP m)(ab:ba.lx bs):tP m':=by have h1:=Hr τ.gY h.lt;have ι:=ah.nC;refine⟨by rw[h.d];exact ba.XQ ah.dev (by omega) ab,by rw[h.d];exact ah.off,by rw[h.d];exact ah.after,?_⟩;rw[h.d,h.s,h.k];show(((m.d.now.set _ _).length:Nat):Int)=_;rw[hQ];exact ah.nC
theorem T1:∀(xs:List dB)(m:aQ)(U:List dB),o1 m->tP m->CI m.st U->(∀x∈xs,x∈U)->(∀x∈U,(x.1:Int)<m.s/\(x.2:Int)<m.k)->
  ((2<=m.st.free.length/\(xs.length:Int)<m.k)\/(1<=m.st.free.length/\0<=m.st.head/\m.st.used+xs.length<m.k))->S5 m (ik m xs).1 xs (ik m xs).2 U
 |[],m,U,τ,ah,jF,_,_,ar=>⟨τ,ah,jF,rfl,Rt,λy ag=>(by cases ag),λy ag=>(by cases ag),λy ag=>(by cases ag),.inl rfl,λ_ h=>h,λ_ _ _=>rfl,rfl,rfl,rfl,rfl,rfl,rfl,rfl,rfl,rfl,rfl,λh _=>h,rfl,(by rcases ar with h|h;exact gE (by decide) h.1;exact h.1),λ_ _=>rfl,
   λh=>(PL τ).2 (by rcases h with h|h;exact absurd rfl h.2;simp at h;omega)⟩
 |x::r,m,U,τ,ah,jF,J,bQ,ar=>by
  have p2:=bQ x (J x (by simp));obtain⟨bH,mU⟩:=Yi τ ah p2;have nF:bA.room m.st 0=true:=af6 (by
   rcases ar with h|h
   ·exact .inl (by omega)
   ·exact .inl h.1)
  have dV:=Rf τ jF (Int.le_refl 0) nF (hS m.k m.d x);unfold ik;generalize hp:(gz m (hS m.k m.d x) 0).1=m1 at dV⊢;generalize ag:(gz m (hS m.k m.d x) 0).2=y at dV⊢;have mQ:=dV.dev τ ah mU;have hlen:((x::r).length:Int)=r.length+1:=by simp
  have apM:=PL dV.base;have L2:0<=m1.st.head:=by rw[dV.head];omega
  have se:(2<=m1.st.free.length/\(r.length:Int)<m1.k)\/(1<=m1.st.free.length/\0<=m1.st.head/\m1.st.used+r.length<m1.k):=by
   rw[dV.k];rcases dV.gC with⟨f1,f2,f3⟩|⟨f1,f2,f3⟩
   ·rcases ar with h|h
    ·exact .inr ⟨by omega,L2,by omega⟩
    ·have:=(PL τ).2 ⟨h.2.1,by omega⟩
     rw[this]at f1;cases f1
   ·rcases ar with h|h
    ·exact .inl ⟨by rw[f2];exact h.1,by omega⟩
    ·exact .inr ⟨by rw[f2];exact h.1,L2,by omega⟩
  have cw:=T1 r m1 (y::U) dV.base mQ dV.ok (λz aI=>ie _ (J z (ie _ aI))) (λz aI=>by
   rw[dV.s,dV.k];rcases fB.1 aI with rfl|aI
   ·exact dV.lt
   ·exact bQ z aI) se
  have Dl:r=[]->(ik m1 r).1=m1:=λh=>by rw[h];rfl
  generalize ik m1 r=q at cw Dl⊢;obtain⟨m2,ys⟩:=q;dsimp only at cw⊢;have BF:∀z:dB,(z.1:Int)<m.s/\(z.2:Int)<m.k->hS m.k m1.d z=if z=y then hS m.k m.d x else hS m.k m.d z:=λz aI=>by rw[dV.d];exact Yj τ.gY ah.nC dV.lt _ aI
  have Wx:y∉ys:=λhm=>cw.new y hm oj;have adJ:∀{s:Int},s=m1.st.head\/s∈m1.st.free->s=m.st.head\/s∈m.st.free:=λh=>by
   rcases h with h|h
   ·rw[h,dV.head];exact dV.from_
   ·exact .inr (dV.sub _ h)
  refine⟨cw.base,cw.dev,⟨λz aI=>cw.ok.free z ?_,λz aI=>cw.ok.head z ?_⟩,by simp[cw.len],Ns.2 ⟨Wx,cw.l9⟩,λz aI=>?_,λz aI=>?_,λz aI=>?_,adJ cw.head,λz aI=>dV.sub z (cw.sub z aI),λz aI adY=>?_,?_,cw.s.trans dV.s,cw.k.trans dV.k,cw.R.trans dV.R,cw.dl.trans dV.dl,cw.seq.trans dV.seq,cw.ot.trans dV.ot,cw.clock.trans dV.clock,cw.mm.trans dV.mm,
   by rw[cw.pA,dV.stamps,hQ],λh aF t aS=>?_,by rw[cw.loose,dV.d];show(m.d.loose++[_]).length+_=_;simp;omega,cw.gC,λh1 ι=>?_,λh=>cw.aeG ?_⟩
  ·have:z∈y::(ys++U):=aI
   simp only[fB,iC]at this⊢;rcases this with h|h|h
   ·exact .inr (.inl h)
   ·exact .inl h
   ·exact .inr (.inr h)
  ·have:z∈y::(ys++U):=aI
   simp only[fB,iC]at this⊢;rcases this with h|h|h
   ·exact .inr (.inl h)
   ·exact .inl h
   ·exact .inr (.inr h)
  ·rcases fB.1 aI with rfl|aI
   ·exact dV.new
   ·exactλhu=>cw.new z aI (ie _ hu)
  ·rcases fB.1 aI with rfl|aI
   ·exact dV.lt
   ·have:=cw.lt z aI
    rw[dV.s,dV.k]at this;exact this
  ·rcases fB.1 aI with rfl|aI
   ·exact dV.from_
   ·exact adJ (cw.agj z aI)
  ·have h1:=cw.old z (by rw[dV.s,dV.k];exact aI) λhm=>adY (ie _ hm);rw[dV.k]at h1;rw[h1,BF z aI,aL (λe:z=y=>adY (by rw[e];exact oj))]
  ·have h1:=cw.old y (by rw[dV.s,dV.k];exact dV.lt) Wx;have ι:=cw.sec;rw[dV.k]at h1 ι;rw[yW,yW,h1,BF y dV.lt,aN rfl,ι];congr 1;apply DW;intro z aI;have adX:=J z (ie _ aI);rw[BF z (bQ z adX),aL (λe:z=y=>dV.new (by rw[<-e];exact adX))]
  ·have aJ:∀t∈m1.stamps,0<=t/\t<=m1.clock:=λt aS=>by
    rw[dV.clock];rw[dV.stamps]at aS;rcases qh aS with aS|rfl
    ·exact h t aS
    ·omega
   have:=cw.rR aJ (by rw[dV.clock];exact aF) t aS
   rw[dV.clock]at this;exact this
  ·rcases dV.gC with⟨f1,f2,f3⟩|⟨f1,f2,f3⟩
   ·rw[h1]at f1;cases f1
   ·by_cases φ:r=[]
    ·subst φ;have bM:m2=m1:=Dl rfl;rw[bM,f2]
    ·have:=cw.two (apM.2 ⟨L2,by
      have:0<r.length:=X4.2 φ
      rw[dV.k];omega⟩) (by rw[dV.k];omega)
     rw[this,f2]
  ·rcases dV.gC with⟨f1,f2,f3⟩|⟨f1,f2,f3⟩
   ·refine .inr ⟨L2,?_⟩;rw[dV.k];rcases ar with ar|ar
    ·omega
    ·have:=(PL τ).2 ⟨ar.2.1,by omega⟩
     rw[this]at f1;cases f1
   ·rcases h with h|h
    ·rw[f1]at h;cases h.1
    ·exact .inr ⟨L2,by rw[dV.k];omega⟩
theorem SE(f:dB->dB)(R:bZ):used (kG f R)=(used R).map f:=by
 unfold used kG;rw[List.flatMap_map,List.map_flatMap];congr 1
 funext e
 unfold qW;dsimp only
 induction e.2.2 with
 |nil=>rfl
 |cons q l cw=>cases q with|none=>simpa using cw|some x=>simpa using cw
theorem asi(f g:dB->dB)(R:bZ):kG f (kG g R)=kG (f∘g) R:=by
 unfold kG;rw[DV];congr 1
 funext e
 simp[DV,Option.map_map,Function.comp_def]
theorem aeq(R:bZ):kG id R=R:=by unfold kG;simp
def Td(f:dB->dB)(l:List dB):Prop:=∀x∈l,∀y∈l,f x=f y->x=y
theorem aef{f:dB->dB}{R:bZ}(h:Td f (used R)):jn (kG f R)=jn R:=by
 unfold jn;rw[SE];apply Nat.le_antisymm
 ·have:=ry (gK ((used R).map f)) ((gK (used R)).map f) (xk _) λx J=>by
   obtain⟨y,ag,rfl⟩:=gx.1 ((kv _ _).1 J);exact gx.2 ⟨y,(kv _ _).2 ag,rfl⟩
  rwa[jM]at this
 ·have ar:((gK (used R)).map f).Nodup:=by
   refine G7 _ (S:=λa b=>a≠b) (R:=λa b=>f a≠f b) (λ_ _ h=>h) ?_|>λh=>h
   exact X5 (λ{a b}aR τ um e=>um (h a ((kv _ _).1 aR) b ((kv _ _).1 τ) e)) (xk (used R))
  have:=ry ((gK (used R)).map f) (gK ((used R).map f)) ar λx J=>by obtain⟨y,ag,rfl⟩:=gx.1 J;exact(kv _ _).2 (gx.2 ⟨y,(kv _ _).1 ag,rfl⟩)
  rwa[jM]at this
theorem W7:∀(xs ys:List dB)(R:bZ),xs.Nodup->ys.Nodup->ys.length=xs.length->(∀x∈xs,x∈used R)->(∀y∈ys,y∉used R/\hg y)->
  KI R xs ys/\∃g:dB->dB,l8 R xs ys=kG g R/\(∀z∈used R,z∉xs->g z=z)/\ys=xs.map g/\Td g (used R)
 |[],[],R,_,_,_,_,_=>⟨trivial,id,(aeq R).symm,λ_ _ _=>rfl,rfl,λ_ _ _ _ h=>h⟩
 |[],y::ys,R,_,_,h,_,_=>by simp at h
 |x::xs,[],R,_,_,h,_,_=>by simp at h
 |x::xs,y::ys,R,J,ag,ak,Du,Wy=>by
  obtain⟨Dt,kr⟩:=Ns.1 J;obtain⟨Wv,Qz⟩:=Ns.1 ag;have adV:=Du x (by simp);obtain⟨QA,arw⟩:=Wy y (by simp);have j0:∀z,z∈used (kG (ml x y) R)↔∃w∈used R,ml x y w=z:=λz=>by rw[SE,gx]
  have adh:∀z∈used R,z≠x->z∈used (kG (ml x y) R):=λz aI b1=>(j0 z).2 ⟨z,aI,by unfold ml;rw[aL b1]⟩;obtain⟨h1,g,ι,aJ,cK,dx⟩:=W7 xs ys (kG (ml x y) R) kr Qz (by simpa using ak) (λz aI=>adh z (Du z (ie _ aI)) λe=>Dt (e▸aI)) (λz aI=>⟨λhm=>by
   obtain⟨w,hw,e⟩:=(j0 z).1 hm;unfold ml at e;split at e
   ·exact Wv (e▸aI)
   ·exact(Wy z (ie _ aI)).1 (e▸hw),(Wy z (ie _ aI)).2⟩)
  refine⟨⟨adV,QA,arw,h1⟩,g∘ml x y,by show l8 (kG (ml x y) R) xs ys=_;rw[ι,asi],λz aI ar=>?_,?_,λa aR b τ e=>?_⟩
  ·have b1:z≠x:=λe=>ar (e▸oj);show g (ml x y z)=z;unfold ml;rw[aL b1];exact aJ z (adh z aI b1) λhm=>ar (ie _ hm)
  ·rw[yW,cK];congr 1
   ·show y=g (ml x y x);unfold ml;rw[aN rfl];exact(aJ y ((j0 y).2 ⟨x,adV,by unfold ml;rw[aN rfl]⟩) λhm=>QA (Du y (ie _ hm))).symm
   ·apply DW;intro z aI;show g z=g (ml x y z);unfold ml;rw[aL λe:z=x=>Dt (e▸aI)]
  ·have:=dx _ ((j0 _).2 ⟨a,aR,rfl⟩) _ ((j0 _).2 ⟨b,τ,rfl⟩) e
   unfold ml at this;split at this<;>split at this
   ·rename_i aP bM;rw[aP,bM]
   ·exact absurd (this▸τ) QA
   ·exact absurd (this▸aR) QA
   ·exact this
structure Es(m m':aQ):Prop where
 s:m'.s=m.s
 k:m'.k=m.k
 R:m'.R=m.R
 clock:m'.clock=m.clock
 stamps:m'.stamps=m.stamps
 fr:Fr m.st m'.st (k6 m.s.toNat (lays (used m.R)) [m.st.head])
 low:jh m.d m'.d
 seq:m'.seq=m.seq+1
 dl:m'.dl=[]
 ot:m'.used=0
 loose:m'.d.loose=[]
 mm:m'.mm=false
structure xV(m:aQ):Prop where
 base:o1 m
 dev:tP m
 len:m.R.length=8
 ok:∀e∈m.R,mG e
 fit:mN m.s m.k m.R
 st:CI m.st (used m.R)
 pA:m.stamps.length=m.s.toNat
 rR:∀t∈m.stamps,0<=t/\t<=m.clock
 dl:∀d∈m.dl,d.wf/\ix d=0
 ot:m.used<=16
 seq:1<=m.seq
theorem Inv.xi{m:aQ}(h:Inv m):xV m:=⟨h.base,h.x8,h.len,h.ok,h.fit,h.Kc,h.pA,h.rR,h.dl,h.ot,h.seq⟩
theorem xV.inv{m:aQ}(h:xV m)(ι:2<=m.st.free.length):Inv m:=⟨h.base.gY,h.len,h.ok,h.fit,h.base.fz,h.base.hi,h.base.blocks,ι,h.st.free,h.st.head,h.dev.dev,h.dev.off,h.dev.after,h.dev.nC,h.pA,h.rR,h.dl,h.ot,h.seq⟩
theorem Gt{m:aQ}(τ:o1 m)(ah:tP m):40<=m.d.now.length:=by
 have:=at2 τ
 have:=ah.nC
 omega
theorem abk{m:aQ}(h:xV m)(aH:m.seq+1<=1073741824):Es m (r9 m):=
 ⟨rfl,rfl,rfl,rfl,rfl,US _ h.base.fz,auW (jh.flush (jh.refl h.dev.dev)) (Gt h.base h.dev) ⟨by have:=h.seq;omega,aH⟩ h.fit h.ok h.len,rfl,rfl,rfl,rfl,rfl⟩
theorem Es.xi{m m':aQ}(c:Es m m')(h:xV m):xV m':=by
 refine⟨⟨by rw[c.s,c.k];exact h.base.gY,c.fr.fz,by rw[c.fr.hi,c.s];exact h.base.hi,by rw[c.fr.blocks,c.k];exact h.base.blocks⟩,⟨c.low.fz,c.low.off.trans h.dev.off,c.low.after.trans h.dev.after,by rw[c.low.len,c.s,c.k];exact h.dev.nC⟩,by rw[c.R];exact h.len,by rw[c.R];exact h.ok,by rw[c.s,c.k,c.R];exact h.fit,?_,by rw[c.stamps,c.s];exact h.pA,by rw[c.stamps,c.clock];exact h.rR,by rw[c.dl];exactλd ah=>(by cases ah),by rw[c.ot];omega,by rw[c.seq];have:=h.seq;omega⟩;rw[c.R];refine⟨λx J hm=>?_,λx J e=>?_⟩
 ·rcases(c.fr.mem _).1 hm with hm|⟨hm,_⟩
  ·exact h.st.free x J hm
  ·obtain⟨i,I,e,aI,_⟩:=W3.1 hm;exact aI x ((Jt h.ok).2 J) (by omega)
 ·rw[c.fr.head]at e;rw[c.fr.used];exact h.st.head x J e
theorem Es.len{m m':aQ}(c:Es m m')(h:xV m):m.st.free.length<=m'.st.free.length:=
 ry _ _ (af4 h.base.fz.Hg) λx J=>(c.fr.mem x).2 (.inl J)
theorem TR{m:aQ}(h:Inv m)(aH:m.seq+1<=1073741824):Inv (r9 m)/\Es m (r9 m):=by
 have c:=abk h.xi aH
 have:=c.len h.xi
 have:=h.two
 exact⟨(c.xi h.xi).inv (by omega),c⟩
theorem sum_add(f:Nat->Nat)(a:Nat):∀n,((List.range n).map λi=>f i+if a=i then 1 else 0).sum=((List.range n).map f).sum+if a<n then 1 else 0
 |0=>rfl
 |n+1=>by rw[v8,ss,ss,RC,RC,sum_add f a n];simp only[yW,List.map_nil,List.sum_cons,List.sum_nil];split<;>split<;>split<;>omega
theorem agR(n:Nat):∀V:List dB,(∀x∈V,x.1<n)->((List.range n).map λi=>(V.filter λx=>x.1==i).length).sum=V.length
 |[],_=>by
  have:∀n,((List.range n).map λi=>(([]:List dB).filter λx=>x.1==i).length).sum=0:=λn=>by
   induction n with
   |zero=>rfl
   |succ n cw=>rw[v8,ss,RC,cw];rfl
  exact this n
 |x::V,h=>by
  have e:(λi=>((x::V).filter λy=>y.1==i).length)=λi=>(V.filter λy=>y.1==i).length+if x.1=i then 1 else 0:=by
   funext i
   rw[List.filter_cons];by_cases J:x.1=i
   ·simp[J]
   ·simp[J]
  rw[e,sum_add,agR n V λy ag=>h y (ie _ ag),aN (h x (by simp))];rfl
theorem agS(f:Nat->Nat)(k:Nat):∀n,((List.range n).filter λi=>decide (k<=f i)).length*k<=((List.range n).map f).sum
 |0=>by simp
 |n+1=>by
  have cw:=agS f k n;rw[v8,DQ,ss,RC,fw,mc]
  have:([n].filter λi=>decide (k<=f i)).length*k<=([n].map f).sum:=by
   by_cases h:k<=f n
   ·simp[h]
   ·simp[h]
  omega
def rb(V:List dB)(i:Nat):Nat:=(V.filter λx=>x.1==i).length
theorem amF{n:Nat}(V:List dB){i:Nat}(I:i<n):(iz n V).getD i 0=(rb V i:Int):=by rw[List.getD_eq_getElem?_getD,ID V I];rfl
theorem abc{k:Int}{n:Nat}{V:List dB}{h:Int}{i:Nat}(I:i<n):xf k (iz n V) h i=true↔0<rb V i/\(rb V i:Int)<k/\(i:Int)≠h:=by unfold xf;rw[amF V I];simp only[lf,qI];omega
theorem XK{k:Int}{n:Nat}{V:List dB}{jd:aq}{h:Int}{g:Nat}(e:tn k (iz n V) jd h=some g):g<n/\0<rb V g/\(rb V g:Int)<k/\(g:Int)≠h:=by
 unfold tn at e;rw[Fa]at e;dsimp only at e;split at e
 ·cases e
 ·rename_i b1;cases e;have xd:0<(hV k (iz n V) h n).length:=X4.2 b1;have τ:=Pd (sm k (iz n V) jd (hV k (iz n V) h n)) (sA k (iz n V) (hV k (iz n V) h n)) (dO _) (show 1<=(hV k (iz n V) h n).length by omega);have hm:=aba _ (show(hV k (iz n V) h n).getD (r8 (sm k (iz n V) jd (hV k (iz n V) h n)) (sA k (iz n V) (hV k (iz n V) h n)) (hV k (iz n V) h n).length) 0∈hV k (iz n V) h n by
   rw[List.getD_eq_getElem?_getD,List.getElem?_eq_getElem τ];exact hP τ)
  exact⟨hm.1,(abc hm.1).1 hm.2⟩
theorem atM{k:Int}{n:Nat}{V:List dB}{jd:aq}{h:Int}(e:tn k (iz n V) jd h=none){i:Nat}(I:i<n)(b1:(i:Int)≠h):rb V i=0\/k<=rb V i:=by
 unfold tn at e;rw[Fa]at e;dsimp only at e;split at e
 ·rename_i π;by_cases aF:rb V i=0
  ·exact .inl aF
  ·refine .inr ?_;by_cases hk:(rb V i:Int)<k
   ·have:i∈hV k (iz n V) h n:=nN.2 ⟨lh.2 I,(abc I).2 ⟨by omega,hk,b1⟩⟩
    rw[π]at this;cases this
   ·omega
 ·cases e
structure Zj(m m':aQ)(g:dB->dB):Prop where
 R:m'.R=kG g m.R
 inj:Td g (used m.R)
 sec:∀x∈used m.R,hS m.k m'.d (g x)=hS m.k m.d x
 s:m'.s=m.s
 k:m'.k=m.k
 clock:m'.clock=m.clock
 seq:m'.seq=m.seq+1
 dl:m'.dl=[]
 ot:m'.used=0
 loose:m'.d.loose=[]
 mm:m'.mm=false
theorem auK{m:aQ}(h:o1 m)(φ:bA.room m.st 2=false):bA.full m.st=true/\m.st.free.length<=2:=by
 unfold bA.room at φ;simp only[Bool.and_eq_false_iff,Rl,Bool.not_eq_false',Ni]at φ;rcases φ with φ|⟨h1,ι⟩
 ·omega
 ·exact⟨h1,by omega⟩
theorem af7{m:aQ}(h:bA.full m.st=false\/3<=m.st.free.length):bA.room m.st 2=true:=by
 unfold bA.room;rcases h with h|h
 ·simp[h]
 ·simp;right;omega
theorem NM{m:aQ}(h:o1 m):(m.s.toNat:Int)=m.s:=by have:=h.gY;omega
theorem asK{m:aQ}(h:xV m){m':aQ}(c:Es m m')(hp:tn m.k (iz m.s.toNat (lays (used m.R))) (pN m) m.st.head=none)(ak:(jn m.R:Int)+1<=m.cap):4<=m'.st.free.length:=by
 have ab:=NM h.base;have bH:=h.base.gY;obtain⟨f1,f2,f3⟩:=(mC bH).1 h.fit;have k7:∀x,x∈lays (used m.R)↔x∈used m.R:=λx=>Jt h.ok;have aoR:(lays (used m.R)).length=jn m.R:=by rw[<-MD (λx=>kv (used m.R) x),Jl (λx J=>sB h.ok x ((kv _ _).1 J)) (xk _)];rfl
 have aq2:=agR m.s.toNat (lays (used m.R)) λx J=>by have:=f2 x ((k7 x).1 J);omega
 have zV:=agS (rb (lays (used m.R))) m.k.toNat m.s.toNat;have aP:((List.range m.s.toNat).map (rb (lays (used m.R)))).sum=jn m.R:=aq2.trans aoR;rw[aP]at zV;generalize kE:((List.range m.s.toNat).filter λi=>decide (m.k.toNat<=rb (lays (used m.R)) i))=F at zV;have azd:F.length+5<=m.s.toNat:=by
  unfold aQ.cap at ak;have hk:(m.k.toNat:Int)=m.k:=by omega
  rcases JU (F.length+4) m.s.toNat with h|h
  ·omega
  ·have h1:(m.s-4)*m.k<=(F.length:Int)*m.k:=JP (by omega) (by omega);have ι:(F.length:Int)*m.k<=jn m.R:=by
    have:((F.length*m.k.toNat:Nat):Int)<=jn m.R:=by exact_mod_cast zV
    rw[Int.natCast_mul,hk]at this;exact this
   omega
 let OS:=(List.range m.s.toNat).filter λi=>decide (rb (lays (used m.R)) i=0)&&decide ((i:Int)≠m.st.head)
 have azu:m.s.toNat<=F.length+OS.length+1:=by
  have:=ry (List.range m.s.toNat) (F++(OS++[m.st.head.toNat])) DU λi I=>by
   have lZ:=lh.1 I;by_cases b1:(i:Int)=m.st.head
   ·simp only[iC,ma];exact .inr (.inr (by omega))
   ·rcases atM hp lZ b1 with aF|aF
    ·refine iC.2 (.inr (iC.2 (.inl (nN.2 ⟨I,?_⟩))));simp[aF,b1]
    ·refine iC.2 (.inl ?_);rw[<-kE];exact nN.2 ⟨I,bI (by omega)⟩
  simp only[xC,fw,Ca]at this;omega
 have cn:OS.length<=m'.st.free.length:=by
  have:=ry (OS.map λ(i:Nat)=>(i:Int)) m'.st.free (by
   refine G7 (S:=λa b=>a≠b) (R:=λa b=>a≠b) _ (λa b h e=>h (by omega)) ?_;exact(DU (n:=m.s.toNat)).filter _) λx J=>by
   obtain⟨i,I,rfl⟩:=gx.1 J;obtain⟨h1,ι⟩:=nN.1 I;simp only[lf,qI]at ι;have lZ:=lh.1 h1;refine(c.fr.mem _).2 (.inr ⟨W3.2 ⟨i,lZ,rfl,λz aI e=>?_,ι.2⟩,by omega,by rw[h.base.hi];omega,ι.2⟩)
   have:=List.length_eq_zero_iff.1 ι.1
   have hm:z∈(lays (used m.R)).filter λx=>x.1==i:=nN.2 ⟨aI,by simpa using e⟩;rw[this]at hm;cases hm
  rwa[jM]at this
 omega
theorem abl{m:aQ}(h:Inv m)(aH:m.seq+1<=1073741824)(aF:0<=m.clock):Inv (ra m)/\(∃g,Zj m (ra m) g)/\(bA.room m.st 2=false->(jn m.R:Int)+1<=m.cap->bA.room (ra m).st 2=true):=by
 have ab:=NM h.base;have bH:=h.gY;obtain⟨f1,f2,f3⟩:=(mC bH).1 h.fit;unfold ra;cases hp:tn m.k (iz m.s.toNat (lays (used m.R))) (pN m) m.st.head with
 |none=>
  obtain⟨I,c⟩:=TR h aH;refine⟨I,⟨id,by rw[aeq];exact c.R,λ_ _ _ _ h=>h,λx J=>c.low.sec (by omega) x,c.s,c.k,c.clock,c.seq,c.dl,c.ot,c.loose,c.mm⟩,λ_ ak=>?_⟩
  have:=asK h.xi c hp ak
  exact af7 (.inr (by dsimp only;omega))
 |some g=>
  dsimp only;obtain⟨g1,g2,g3,g4⟩:=XK hp;have V2:∀x,x∈lays (used m.R)↔x∈used m.R:=λx=>Jt h.ok;have iB:∀x,x∈fA m g↔x∈used m.R/\x.1=g:=λx=>by unfold fA;rw[nN,V2,qI];exact⟨λ⟨a,b⟩=>⟨a,by omega⟩,λ⟨a,b⟩=>⟨a,by omega⟩⟩
  have Ms:(fA m g).Nodup:=(ME _).filter _;have p2:(fA m g).length=rb (lays (used m.R)) g:=by
   unfold fA rb;congr 1;apply List.filter_congr;intro x _;by_cases e:x.1=g
   ·rw[bI (by omega)];symm;simpa using e
   ·rw[iX (by omega)];symm;simpa using e
  have dE:=T1 (fA m g) m (used m.R) h.base h.x8 h.Kc (λx J=>((iB x).1 J).1) f2 (.inl ⟨h.two,by omega⟩);generalize Qw:fA m g=xs at dE iB Ms p2;generalize azs:ik m xs=q at dE⊢;obtain⟨Jr,ys⟩:=q;dsimp only at dE⊢;have xc:∀y∈ys,y∉used m.R/\hg y:=λy ag=>⟨dE.new y ag,by have:=dE.lt y ag;unfold hg;omega⟩;obtain⟨ads,f,aP,bM,gA,jE⟩:=W7 xs ys m.R Ms dE.l9 dE.len (λx J=>((iB x).1 J).1) xc;have Qa:∀x∈xs,f x∈ys:=λx J=>by rw[gA];exact gx.2 ⟨x,J,rfl⟩
  have Wm:∀z,z∈used (l8 m.R xs ys)↔∃w∈used m.R,f w=z:=λz=>by rw[aP,SE,gx]
  have n4:∀z∈used (l8 m.R xs ys),z∈ys\/(z∈used m.R/\z∉xs):=λz aI=>by
   obtain⟨w,hw,rfl⟩:=(Wm z).1 aI;by_cases J:w∈xs
   ·exact .inl (Qa w J)
   ·rw[bM w hw J];exact .inr ⟨hw,J⟩
  have L6:xV {Jr with R:=l8 m.R xs ys}:=by
   refine⟨⟨dE.base.gY,dE.base.fz,dE.base.hi,dE.base.blocks⟩,⟨dE.dev.dev,dE.dev.off,dE.dev.after,dE.dev.nC⟩,?_,?_,?_,?_,?_,?_,?_,?_,?_⟩
   ·dsimp only;rw[aP];unfold kG;rw[jM];exact h.len
   ·dsimp only;intro e he;refine Q4 (λq aH=>?_) (HA f1 e he);cases q with
    |none=>trivial
    |some z=>
     rcases n4 z (xh.2 ⟨e,he,aH⟩)with aI|aI
     ·exact(xc z aI).2
     ·exact sB h.ok z aI.1
   ·dsimp only;rw[dE.s,dE.k];refine(mC bH).2 ⟨HA f1,λz aI=>?_,by rw[aP,aef jE];exact f3⟩;rcases n4 z aI with aI|aI
    ·exact dE.lt z aI
    ·exact f2 z aI.1
   ·dsimp only;refine⟨λz aI=>dE.ok.free z ?_,λz aI=>dE.ok.head z ?_⟩
    ·rcases n4 z aI with aI|aI
     ·exact iC.2 (.inl aI)
     ·exact iC.2 (.inr aI.1)
    ·rcases n4 z aI with aI|aI
     ·exact iC.2 (.inl aI)
     ·exact iC.2 (.inr aI.1)
   ·dsimp only;rw[dE.pA,dE.s];exact h.pA
   ·dsimp only;rw[dE.clock];exact dE.rR h.rR aF
   ·dsimp only;rw[dE.dl];exact h.dl
   ·dsimp only;rw[dE.ot];exact h.ot
   ·dsimp only;rw[dE.seq];exact h.seq
  have aqU:Jr.seq+1<=1073741824:=by rw[dE.seq];exact aH
  have c:=abk L6 aqU;obtain⟨cq,td⟩:∃x,x∈xs:=by
   cases xs with
   |nil=>simp at p2;omega
   |cons a l=>exact⟨a,oj⟩
  have ac7:(g:Int)∉m.st.free:=by
   have:=h.free cq ((iB cq).1 td).1
   rwa[((iB cq).1 td).2]at this
  have V6:∀{a:Int},a=m.st.head\/a∈m.st.free->a≠g:=λaR e=>by
   rcases aR with aR|aR
   ·exact g4 (by omega)
   ·exact ac7 (e▸aR)
  have apR:(g:Int)∈(r9 {Jr with R:=l8 m.R xs ys}).st.free:=by
   refine(c.fr.mem _).2 (.inr ⟨W3.2 ⟨g,by dsimp only;rw[dE.s];exact g1,rfl,λz aI e=>?_,λe=>V6 dE.head e.symm⟩,by omega,by dsimp only;rw[dE.base.hi,dE.s];omega,λe=>V6 dE.head e.symm⟩);rcases n4 z ((Jt L6.ok).1 aI)with aI|aI
   ·exact V6 (dE.agj z aI) (by omega)
   ·exact aI.2 ((iB z).2 ⟨aI.1,e⟩)
  have aq8:2<=(r9 {Jr with R:=l8 m.R xs ys}).st.free.length:=by
   have l1:((g:Int)::Jr.st.free).Nodup:=Ns.2 ⟨λhm=>ac7 (dE.sub _ hm),af4 dE.base.fz.Hg⟩
   have:=ry _ (r9 {Jr with R:=l8 m.R xs ys}).st.free l1 λx J=>by
    rcases fB.1 J with rfl|J
    ·exact apR
    ·exact(c.fr.mem _).2 (.inl J)
   have bm:=dE.gC;simp only[kU]at this;omega
  refine⟨(c.xi L6).inv aq8,⟨f,c.R.trans aP,jE,λx J=>?_,c.s.trans dE.s,c.k.trans dE.k,c.clock.trans dE.clock,?_,c.dl,c.ot,c.loose,c.mm⟩,λφ ak=>?_⟩
  ·have oE:=c.low.sec (k:=m.k) (by omega) (f x);rw[oE];dsimp only;by_cases yw:x∈xs
   ·have mU:=dE.sec;rw[gA,DV]at mU
    have:=List.map_inj_left.1 mU x yw
    exact this
   ·rw[bM x J yw];exact dE.old x (f2 x J) λhm=>dE.new x hm J
  ·have:=c.seq
   dsimp only at this;rw[this,dE.seq]
  ·have zV:=(auK h.base φ).1;have adv:=dE.aeG (.inl ⟨zV,λe=>by rw[e]at td;cases td⟩);refine af7 (.inl ?_);unfold bA.full at adv⊢;rw[c.fr.head,c.fr.used,c.fr.blocks];exact adv
theorem CV:rY 0:=⟨by decide,by decide⟩
theorem am4{i:Nat}(I:i<8){s:Int}(ab:1<=s/\s<=32):ix ⟨1,i,0,s,0,0⟩=0:=by simp[ix,dI.jL,pk,uw,uv,tf,tg];omega
theorem am5{v:Int}(az:0<=v/\v<8):ix ⟨2,v,0,0,0,0⟩=0:=by simp[ix,dI.jL,pk,uw,uv,tf,tg];omega
theorem am6{v:Int}(az:0<=v/\v<8){i:Nat}(I:i<8)(b1:(i:Int)≠v):ix ⟨3,v,i,0,0,0⟩=0:=by simp[ix,dI.jL,pk,uw,uv,tf,tg];omega
theorem am7{v b:Int}(az:0<=v/\v<8)(τ:0<=b/\b<32){x:dB}(J:hg x):ix ⟨4,v,0,b,x.1,x.2⟩=0:=by have h1:=J.1;have ι:=J.2;simp[ix,dI.jL,pk,uw,uv,tf,tg,whole];omega
theorem am8{v b:Int}(az:0<=v/\v<8)(τ:0<=b/\b<32):ix ⟨5,v,0,b,0,0⟩=0:=by simp[ix,dI.jL,pk,uw,uv,tf,tg];omega
theorem agw{e:gn}(h:r2 e)(b:Nat)(q:eK):r2 (e.1,e.2.1,e.2.2.set b q):=⟨by show((e.2.2.set b q).length:Int)=_;rw[hQ];exact h.1,h.2.1,h.2.2.1,h.2.2.2⟩
theorem RW{R:bZ}{v:Nat}{e:gn}(h:R[v]?=some e)(b:Nat)(q:eK):j5 R v b q=R.set v (e.1,e.2.1,e.2.2.set b q):=by unfold j5;rw[h]
structure zm(m:aQ)(n:Nat):Prop where
 seq:m.seq<=n
 clock:0<=m.clock/\m.clock<=n
 dl:m.dl.length<=n
 loose:m.d.loose.length<=n
theorem zm.more{m:aQ}{n fG:Nat}(h:zm m n)(ar:n<=fG):zm m fG:=⟨by have:=h.seq;omega,by have:=h.clock;omega,by have:=h.dl;omega,by have:=h.loose;omega⟩
theorem av3{m:aQ}(h:Inv m):Inv (tick m):=⟨h.gY,h.len,h.ok,h.fit,h.fz,h.hi,h.blocks,h.two,h.free,h.head,h.dev,h.off,h.after,h.nC,h.pA,λt aS=>by have:=h.rR t aS;show 0<=t/\t<=m.clock+1;omega,h.dl,h.ot,h.seq⟩
theorem av2{m:aQ}{n:Nat}(h:zm m n):zm (tick m) (n+1):=⟨by have:=h.seq;show m.seq<=_;omega,by have:=h.clock;show 0<=m.clock+1/\m.clock+1<=_;omega,by have:=h.dl;show m.dl.length<=_;omega,by have:=h.loose;show m.d.loose.length<=_;omega⟩
theorem agT{m:aQ}(h:Inv m)(aH:m.seq+1<=1073741824):Inv (y6 m)/\(y6 m).R=m.R/\jh m.d (y6 m).d/\(y6 m).s=m.s/\(y6 m).k=m.k/\(∀n,zm m n->zm (y6 m) (n+1)):=by
 unfold y6;split
 ·exact⟨h,rfl,jh.refl h.dev,rfl,rfl,λn bm=>bm.more (by omega)⟩
 ·split
  ·obtain⟨I,c⟩:=TR h aH;exact⟨I,c.R,c.low,c.s,c.k,λn bm=>⟨by rw[c.seq];have:=bm.seq;omega,by rw[c.clock];have:=bm.clock;omega,by rw[c.dl];exact eR _,by rw[c.loose];exact eR _⟩⟩
  ·rename_i hlen;have hp:m.used+cS.parts m.dl.length<=16:=by have:=h.ot;unfold cS.parts;omega
   have ak:jh m.d (lC (D3 (lC m.d) m.seq m.used m.dl)):=jh.flush (agB (jh.flush (jh.refl h.dev)) (Gt h.base h.x8) m.seq h.dl hp);refine⟨⟨h.gY,h.len,h.ok,h.fit,h.fz,h.hi,h.blocks,h.two,h.free,h.head,ak.fz,ak.off.trans h.off,ak.after.trans h.after,?_,h.pA,h.rR,(λd ah=>by cases ah),hp,h.seq⟩,rfl,ak,rfl,rfl,λn bm=>⟨by have:=bm.seq;show m.seq<=_;omega,by have:=bm.clock;show 0<=m.clock/\m.clock<=_;omega,eR _,eR _⟩⟩;dsimp only;rw[ak.len];exact h.nC
theorem ajD{m:aQ}(h:Inv m){v b:Int}{e:gn}(he:gB m.R v=some e)(hk:e.1≠2)(τ:0<=b/\b<e.2.1){bs:aq}(ab:ba.lx bs)(ak:(jn m.R:Int)+1<=m.cap)(φ:bA.room m.st 2=true):
  OW m (gz m bs 2).1 (gz m bs 2).2 bs (used m.R)/\Inv (p9 {(gz m bs 2).1 with R:=j5 m.R v.toNat b.toNat (some (gz m bs 2).2)} ⟨4,v,0,b,(gz m bs 2).2.1,(gz m bs 2).2.2⟩):=by
 have dV:=Rf h.base h.Kc (show(0:Int)<=2 by decide) φ bs;refine⟨dV,?_⟩;generalize hp:(gz m bs 2).1=m1 at dV⊢;generalize ag:(gz m bs 2).2=x at dV⊢;obtain⟨v0,a7,az,I4⟩:=Bm he;obtain⟨f1,f2,f3⟩:=(mC h.gY).1 h.fit;have eU:=f1 e (fa az);have kF:=RW az b.toNat (some x);have J:hg x:=by have:=dV.lt;have:=h.gY;unfold hg;omega
 have jF:∀z∈used (j5 m.R v.toNat b.toNat (some x)),z∈used m.R\/z=x:=λz aI=>by
  rw[kF]at aI;rcases ai3 aI with h1|h1
  ·exact .inl h1
  ·rcases qh h1 with ι|ι
   ·exact .inl (xh.2 ⟨e,fa az,ι⟩)
   ·cases ι;exact .inr rfl
 have ah:=dV.dev h.base h.x8 ab;have hC:∀z∈used (j5 m.R v.toNat b.toNat (some x)),z∈x::used m.R:=λz aI=>by
  rcases jF z aI with h1|h1
  ·exact ie _ h1
  ·rw[h1];exact oj
 have acB:mv (j5 m.R v.toNat b.toNat (some x)):=λdb ej=>by
  rw[kF]at ej;rcases qh ej with h1|rfl
  ·exact f1 db h1
  ·exact agw eU _ _
 have bQ:∀z∈used (j5 m.R v.toNat b.toNat (some x)),(z.1:Int)<m.s/\(z.2:Int)<m.k:=λz aI=>by
  rcases jF z aI with h1|h1
  ·exact f2 z h1
  ·rw[h1];exact dV.lt
 have Vm:e.2.1<33:=(eU.2.2.2 I4).2;refine⟨dV.base.gY,by show(j5 m.R v.toNat b.toNat (some x)).length=8;rw[agl];exact h.len,λdb ej=>Q4 (λq aH=>?_) (acB db ej),?_,dV.base.fz,dV.base.hi,dV.base.blocks,?_,λz aI=>dV.ok.free z (hC z aI),λz aI=>dV.ok.head z (hC z aI),ah.dev,ah.off,ah.after,ah.nC,?_,?_,?_,?_,?_⟩
 ·cases q with
  |none=>trivial
  |some z=>
   have:=bQ z (xh.2 ⟨db,ej,aH⟩)
   have:=h.gY
   show hg z;unfold hg;omega
 ·show mN m1.s m1.k _;rw[dV.s,dV.k]
  have:=ar1 jF
  refine(mC h.gY).2 ⟨acB,bQ,?_⟩;unfold aQ.cap at ak;show(jn (j5 m.R v.toNat b.toNat (some x)):Int)<=_;omega
 ·show 2<=m1.st.free.length;rcases dV.gC with⟨g1,g2,g3⟩|⟨g1,g2,g3⟩
  ·have:2<m.st.free.length:=by
    unfold bA.room at φ;rw[g1]at φ;simp at φ;omega
   omega
  ·rw[g2];exact h.two
 ·show m1.stamps.length=m1.s.toNat;rw[dV.stamps,hQ,dV.s];exact h.pA
 ·show∀t∈m1.stamps,0<=t/\t<=m1.clock;rw[dV.stamps,dV.clock];intro t aS;rcases qh aS with h1|rfl
  ·exact h.rR t h1
  ·have ak:0<m.stamps.length:=by rw[h.pA];have:=h.gY;omega
   have:=h.rR m.stamps[0] (hP ak)
   omega
 ·show∀d∈m1.dl++[_],d.wf/\ix d=0;rw[dV.dl];exact abz h ⟨⟨by show(0:Int)<=x.1;omega,by have:=J.1;show(x.1:Int)<256;omega⟩,⟨by show(0:Int)<=x.2;omega,by have:=J.2;show(x.2:Int)<256;omega⟩⟩ (am7 ⟨v0,a7⟩ ⟨τ.1,by omega⟩ J)
 ·show m1.used<=16;rw[dV.ot];exact h.ot
 ·show 1<=m1.seq;rw[dV.seq];exact h.seq
structure OT(m:aQ)(r:aQ×gj):Prop where
 inv:Inv r.1
 bad:r.2.e≠0->r.1=m
 s:r.1.s=m.s
 k:r.1.k=m.k
 gC:∀n,zm m n->zm r.1 (n+1)
theorem anl{m:aQ}(h:Inv m)(aH:m.seq+1<=1073741824){a:Ask}(aR:∀x∈a.bs,0<=x/\x<256):OT m (fi m a):=by
 obtain⟨f1,f2,f3⟩:=(mC h.gY).1 h.fit;have same:∀(e:Int),OT m (fail m e):=λe=>⟨h,λ_=>rfl,rfl,rfl,λn bm=>bm.more (by omega)⟩;have plain:∀r:gj,OT m (m,r):=λr=>⟨h,λ_=>rfl,rfl,rfl,λn bm=>bm.more (by omega)⟩;have QS:∀(i:Nat)(e:gn)(d:gd)(r:gj),r.e=0->r2 e->(∀x,some x∈e.2.2->x∈used m.R)->d.wf->ix d=0->OT m (p9 {m with R:=m.R.set i e} d,r):=by intro i e d r φ eU n4 hw π;exact⟨h.set ⟨rfl,rfl,rfl,rfl,rfl,rfl,rfl,rfl⟩ rfl eU n4 (abz h hw π),λar=>absurd φ ar,rfl,rfl,λn bm=>⟨by have:=bm.seq;show m.seq<=_;omega,by have:=bm.clock;show 0<=m.clock/\m.clock<=_;omega,by have:=bm.dl;show(m.dl++[d]).length<=_;rw[fw];simp;omega,by have:=bm.loose;show m.d.loose.length<=_;omega⟩⟩
 unfold fi;split
 ·split
  ·rename_i ab;cases k8:mi m.R with
   |none=>exact same 7
   |some i=>
    have I:=(RZ h.len k8).1;refine QS i _ _ _ rfl ⟨?_,?_,?_,?_⟩ (λx J=>?_) ⟨CV,CV⟩ (am4 I ab)
    ·show((List.replicate a.s.toNat none).length:Int)=a.s;rw[me];omega
    ·exact⟨by dsimp only;omega,by dsimp only;omega⟩
    ·exactλe=>by cases e
    ·exactλ_=>by dsimp only;omega
    ·have:=nb J;cases this
  ·exact same 5
 split
 ·cases he:gB m.R a.v with
  |none=>exact same 4
  |some e=>
   obtain⟨v0,a7,az,hk⟩:=Bm he;exact QS a.v.toNat (0,0,[]) _ _ rfl ⟨rfl,⟨by decide,by decide⟩,λ_=>rfl,λe=>absurd rfl e⟩ (λx J=>by cases J) ⟨CV,CV⟩ (am5 ⟨v0,a7⟩)
 split
 ·cases he:gB m.R a.v with
  |none=>exact same 4
  |some e=>
   obtain⟨v0,a7,az,hk⟩:=Bm he;cases k8:mi m.R with
   |none=>exact same 7
   |some i=>
    obtain⟨I,hB,VQ,I4⟩:=RZ h.len k8;have eU:=f1 e (fa az);refine QS i (2,e.2.1,e.2.2) _ _ rfl ⟨eU.1,⟨by dsimp only;omega,by dsimp only;omega⟩,(λe=>by cases e),λ_=>eU.2.2.2 hk⟩ (λx J=>xh.2 ⟨e,fa az,J⟩) ⟨CV,CV⟩ (am6 ⟨v0,a7⟩ I λei=>?_)
    have:a.v.toNat=i:=by omega
    rw[this,VQ]at az;cases az;exact hk I4
 split
 ·cases he:gB m.R a.v with
  |none=>exact same 4
  |some e=>
   dsimp only;split
   ·exact same 5
   ·split
    ·exact plain _
    ·exact plain _
 split
 ·unfold Kw;cases he:gB m.R a.v with
  |none=>exact same 4
  |some e=>
   dsimp only;split
   ·exact same 8
   split
   ·exact same 5
   split
   ·exact same 6
   split
   ·exact same 9
   split
   ·exact same 12
   ·rename_i ι τ ak π φ;have ab:ba.lx a.bs:=⟨by omega,aR⟩;obtain⟨dV,I⟩:=ajD h he ι (b:=a.b) (by omega) ab (by omega) (by simpa using φ);refine⟨I,λar=>absurd rfl ar,dV.s,dV.k,λn bm=>⟨?_,?_,?_,?_⟩⟩
    ·show(gz m a.bs 2).1.seq<=_;rw[dV.seq];have:=bm.seq;omega
    ·show 0<=(gz m a.bs 2).1.clock/\(gz m a.bs 2).1.clock<=_;rw[dV.clock];have:=bm.clock;omega
    ·show((gz m a.bs 2).1.dl++[_]).length<=_;rw[dV.dl,fw];have:=bm.dl;simp;omega
    ·show(gz m a.bs 2).1.d.loose.length<=_;rw[dV.d];show(m.d.loose++[_]).length<=_;rw[fw];have:=bm.loose;simp;omega
 split
 ·cases he:gB m.R a.v with
  |none=>exact same 4
  |some e=>
   dsimp only;split
   ·exact same 8
   split
   ·exact same 5
   ·rename_i ι τ;obtain⟨v0,a7,az,hk⟩:=Bm he;have eU:=f1 e (fa az);have lD:=(eU.2.2.2 hk).2;rw[RW az];refine QS a.v.toNat _ _ _ rfl (agw eU _ _) (λx J=>?_) ⟨CV,CV⟩ (am8 ⟨v0,a7⟩ (by omega));rcases qh J with J|J
    ·exact xh.2 ⟨e,fa az,J⟩
    ·cases J
 split
 ·obtain⟨g1,g2,g3,g4,g5,g6⟩:=agT h aH;exact⟨g1,λar=>absurd rfl ar,g4,g5,g6⟩
 split
 ·exact plain _
 ·cases he:gB m.R a.v with
  |none=>exact same 4
  |some e=>exact plain _
abbrev fK:=Nat×aq
abbrev hn:=Int×Int×List (Option fK)
structure c6 where
 s:Int
 k:Int
 E:List hn
 n:Nat
def mY(E:List hn):List fK:=E.flatMap λe=>e.2.2.filterMap id
def yJ(f:Nat->dB)(E:List hn):bZ:=E.map λe=>(e.1,e.2.1,e.2.2.map (Option.map λx=>f x.1))
def l7(E:List hn):Nat:=(gK ((mY E).map λx=>(x.1,0))).length
def il(E:List hn)(v:Int):Option hn:=if 0<=v/\v<8 then(E[v.toNat]?).filter λe=>decide (e.1≠0)else none
def nf(E:List hn):Option Nat:=E.findIdx? λe=>decide (e.1=0)
def c6.cap(A:c6):Int:=(A.s-4)*A.k
def xF(E:List hn)(v b:Nat)(q:Option fK):List hn:=match E[v]?with
 |some e=>E.set v (e.1,e.2.1,e.2.2.set b q)
 |none=>E
def kB(A:c6)(e:Int):c6×gj:=(A,⟨e,0,[],[]⟩)
def jf(A:c6)(a:Ask):c6×gj:=
 if a.k=1 then
  (if 1<=a.s/\a.s<=32 then(match nf A.E with
   |none=>kB A 7
   |some i=>({A with E:=A.E.set i (1,a.s,List.replicate a.s.toNat none)},{fh with id:=i}))else kB A 5)
 else if a.k=2 then(match il A.E a.v with
  |none=>kB A 4
  |some _=>({A with E:=A.E.set a.v.toNat (0,0,[])},fh))
 else if a.k=3 then(match il A.E a.v with
  |none=>kB A 4
  |some e=>(match nf A.E with
   |none=>kB A 7
   |some i=>({A with E:=A.E.set i (2,e.2.1,e.2.2)},{fh with id:=i})))
 else if a.k=4 then(match il A.E a.v with
  |none=>kB A 4
  |some e=>if a.b<0\/e.2.1<=a.b then kB A 5 else(match(e.2.2[a.b.toNat]?).join with
   |none=>(A,{fh with bs:=ba.gN})
   |some x=>(A,{fh with bs:=x.2})))
 else if a.k=5 then(match il A.E a.v with
  |none=>kB A 4
  |some e=>
   if e.1=2 then kB A 8
   else if a.b<0\/e.2.1<=a.b then kB A 5
   else if a.bs.length≠64 then kB A 6
   else if A.cap<(l7 A.E:Int)+1 then kB A 9
   else({A with E:=xF A.E a.v.toNat a.b.toNat (some (A.n,a.bs)),n:=A.n+1},fh))
 else if a.k=6 then(match il A.E a.v with
  |none=>kB A 4
  |some e=>if e.1=2 then kB A 8 else if a.b<0\/e.2.1<=a.b then kB A 5
   else({A with E:=xF A.E a.v.toNat a.b.toNat none},fh))
 else if a.k=7 then(A,fh)
 else if a.k=8 then(A,{fh with pr:=[(l7 A.E:Int),A.cap]})
 else(match il A.E a.v with
  |none=>kB A 4
  |some e=>(A,{fh with pr:=[e.1,e.2.1]}))
structure mu(m:aQ)(A:c6)(f:Nat->dB):Prop where
 s:A.s=m.s
 k:A.k=m.k
 R:m.R=yJ f A.E
 inj:∀x∈mY A.E,∀y∈mY A.E,f x.1=f y.1->x.1=y.1
 sec:∀x∈mY A.E,hS m.k m.d (f x.1)=x.2
 lt:∀x∈mY A.E,x.1<A.n
theorem si{E:List hn}{x:fK}:x∈mY E↔∃e∈E,some x∈e.2.2:=by
 unfold mY;rw[qk];constructor
 ·rintro⟨e,h,k⟩;obtain⟨a,aR,bM⟩:=wa.1 k;cases a with
  |none=>cases bM
  |some y=>cases bM;exact⟨e,h,aR⟩
 ·rintro⟨e,h,k⟩;exact⟨e,h,wa.2 ⟨_,k,rfl⟩⟩
theorem YQ(f:Nat->dB)(E:List hn):used (yJ f E)=(mY E).map λx=>f x.1:=by
 unfold used yJ mY;rw[List.flatMap_map,List.map_flatMap];congr 1
 funext e
 unfold qW;dsimp only
 induction e.2.2 with
 |nil=>rfl
 |cons q l cw=>cases q with|none=>simpa using cw|some x=>simpa using cw
theorem asO{α:Type}(f g:α->dB):∀(l:List α),(∀x∈l,∀y∈l,f x=f y↔g x=g y)->(gK (l.map f)).length=(gK (l.map g)).length:=by
 intro l h;have key:∀(f g:α->dB),(∀x∈l,∀y∈l,f x=f y->g x=g y)->(gK (l.map g)).length<=(gK (l.map f)).length:=by
  intro f g h;have hw:∀z∈gK (l.map f),∃x∈l,f x=z:=λz aI=>gx.1 ((kv _ _).1 aI);have ap9:∀lR:List dB,(∀z∈lR,∃x∈l,f x=z)->∃ws:List dB,ws.length=lR.length/\∀x∈l,f x∈lR->g x∈ws:=by
   intro lR
   induction lR with
   |nil=>exactλ_=>⟨[],rfl,λx _ h=>by cases h⟩
   |cons z lR cw=>
    intro aI;obtain⟨ws,h1,ι⟩:=cw λy ag=>aI y (ie _ ag);obtain⟨cq,td,hB⟩:=aI z (by simp);refine⟨g cq::ws,by simp[h1],λx J hm=>?_⟩;rcases fB.1 hm with e|hm
    ·rw[h x J cq td (by rw[e,hB])];exact oj
    ·exact ie _ (ι x J hm)
  obtain⟨ws,h1,ι⟩:=ap9 _ hw;rw[<-h1];refine ry _ _ (xk _) λz aI=>?_;obtain⟨x,J,rfl⟩:=gx.1 ((kv _ _).1 aI);exact ι x J ((kv _ _).2 (gx.2 ⟨x,J,rfl⟩))
 exact Nat.le_antisymm (key g f λx J y ag e=>(h x J y ag).2 e) (key f g λx J y ag e=>(h x J y ag).1 e)
theorem mu.live{m:aQ}{A:c6}{f:Nat->dB}(h:mu m A f):l7 A.E=jn m.R:=by unfold l7 jn;rw[h.R,YQ];refine asO _ _ _ λx J y ag=>⟨λe=>by have:=hr Prod.fst e;dsimp only at this;rw[this],λe=>by rw[h.inj x J y ag e]⟩
theorem mu.cap{m:aQ}{A:c6}{f:Nat->dB}(h:mu m A f):A.cap=m.cap:=by unfold c6.cap aQ.cap;rw[h.s,h.k]
theorem mu.get{m:aQ}{A:c6}{f:Nat->dB}(h:mu m A f)(i:Nat):m.R[i]?=(A.E[i]?).map λe=>(e.1,e.2.1,e.2.2.map (Option.map λx=>f x.1)):=by rw[h.R];unfold yJ;rw[List.getElem?_map]
theorem mu.oA{m:aQ}{A:c6}{f:Nat->dB}(h:mu m A f)(v:Int):gB m.R v=(il A.E v).map λe=>(e.1,e.2.1,e.2.2.map (Option.map λx=>f x.1)):=by
 unfold gB il;split
 ·rw[h.get];cases A.E[v.toNat]?with
  |none=>rfl
  |some e=>
   rw[jB,Nu,Nu];dsimp only;split<;>rfl
 ·rfl
theorem mu.spare{m:aQ}{A:c6}{f:Nat->dB}(h:mu m A f):mi m.R=nf A.E:=by unfold mi nf;rw[h.R];unfold yJ;rw[List.findIdx?_map];rfl
theorem adZ{E:List hn}{i:Nat}{e:hn}{x:fK}(h:x∈mY (E.set i e)):x∈mY E\/some x∈e.2.2:=by
 obtain⟨a,aR,J⟩:=si.1 h;rcases qh aR with aR|rfl
 ·exact .inl (si.2 ⟨a,aR,J⟩)
 ·exact .inr J
theorem mu.set{m m':aQ}{A:c6}{f:Nat->dB}(h:mu m A f)(ab:m'.s=m.s)(hk:m'.k=m.k)(ah:m'.d=m.d)(i:Nat)(e:hn)(n4:∀x,some x∈e.2.2->x∈mY A.E)(iU:m'.R=m.R.set i (e.1,e.2.1,e.2.2.map (Option.map λx=>f x.1))):mu m' {A with E:=A.E.set i e} f:=by
 have jF:∀x∈mY (A.E.set i e),x∈mY A.E:=λx J=>by
  rcases adZ J with h1|h1
  ·exact h1
  ·exact n4 x h1
 refine⟨h.s.trans ab.symm,h.k.trans hk.symm,?_,λx J y ag=>h.inj x (jF x J) y (jF y ag),λx J=>?_,λx J=>h.lt x (jF x J)⟩
 ·rw[iU,h.R];unfold yJ;dsimp only;rw[rK]
 ·rw[hk,ah];exact h.sec x (jF x J)
theorem Cl{E:List hn}{v:Nat}{e:hn}(h:E[v]?=some e)(b:Nat)(q:Option fK):xF E v b q=E.set v (e.1,e.2.1,e.2.2.set b q):=by unfold xF;rw[h]
theorem Lk{E:List hn}{v:Int}{e:hn}(h:il E v=some e):0<=v/\v<8/\E[v.toNat]?=some e/\e.1≠0:=by
 unfold il at h;split at h
 ·rename_i az;cases φ:E[v.toNat]?with
  |none=>rw[φ]at h;simp at h
  |some x=>
   rw[φ,Nu]at h;split at h
   ·cases h;rename_i hk;exact⟨az.1,az.2,rfl,b6 hk⟩
   ·cases h
 ·cases h
theorem mu.same{m m':aQ}{A:c6}{f:Nat->dB}(h:mu m A f)(τ:o1 m)(ab:m'.s=m.s)(hk:m'.k=m.k)(ah:jh m.d m'.d)(iU:m'.R=m.R):mu m' A f:=
 ⟨h.s.trans ab.symm,h.k.trans hk.symm,iU.trans h.R,h.inj,λx J=>by rw[hk,ah.sec (by have:=τ.gY;omega)];exact h.sec x J,h.lt⟩
theorem mu.clean{m m':aQ}{A:c6}{f:Nat->dB}{g:dB->dB}(h:mu m A f)(c:Zj m m' g):mu m' A (g∘f):=by
 have hu:∀x∈mY A.E,f x.1∈used m.R:=λx J=>by rw[h.R,YQ];exact gx.2 ⟨x,J,rfl⟩
 refine⟨h.s.trans c.s.symm,h.k.trans c.k.symm,?_,λx J y ag e=>h.inj x J y ag (c.inj _ (hu x J) _ (hu y ag) e),λx J=>?_,h.lt⟩
 ·rw[c.R,h.R];unfold kG yJ;rw[DV];congr 1
  funext e
  simp[Option.map_map,Function.comp_def]
 ·rw[c.k];exact(c.sec _ (hu x J)).trans (h.sec x J)
theorem avd{m:aQ}(h:Inv m)(aH:m.seq+1<=1073741824){A:c6}{f:Nat->dB}(ab:mu m A f){a:Ask}(aR:∀x∈a.bs,0<=x/\x<256):
  ((fi m a).2.e=12/\bA.room m.st 2=false/\(jn m.R:Int)+1<=m.cap)\/((fi m a).2.e≠12/\(fi m a).2=(jf A a).2/\∃iL,mu (fi m a).1 (jf A a).1 iL):=by
 have bad:∀e:Int,e≠12->((fail m e).2.e=12/\bA.room m.st 2=false/\(jn m.R:Int)+1<=m.cap)\/((fail m e).2.e≠12/\(fail m e).2=(kB A e).2/\∃iL,mu (fail m e).1 (kB A e).1 iL):=λe he=>.inr ⟨he,rfl,f,ab⟩;have ok:∀(m':aQ)(gm:c6)(r:gj)(iL:Nat->dB),r.e=0->mu m' gm iL->(((m',r):aQ×gj).2.e=12/\bA.room m.st 2=false/\(jn m.R:Int)+1<=m.cap)\/(((m',r):aQ×gj).2.e≠12/\((m',r):aQ×gj).2=((gm,r):c6×gj).2/\∃iL,mu ((m',r):aQ×gj).1 ((gm,r):c6×gj).1 iL):=λm' gm r iL φ eU=>.inr ⟨by dsimp only;omega,rfl,iL,eU⟩;unfold fi jf;by_cases h1:a.k=1
 ·rw[aN h1,aN h1];by_cases aI:1<=a.s/\a.s<=32
  ·rw[aN aI,aN aI,ab.spare];cases k8:nf A.E with
   |none=>exact bad 7 (by decide)
   |some i=>
    refine ok _ _ _ f rfl (ab.set (m':=p9 {m with R:=m.R.set i (1,a.s,List.replicate a.s.toNat none)} ⟨1,i,0,a.s,0,0⟩) rfl rfl rfl i (1,a.s,List.replicate a.s.toNat none) (λx J=>by have:=nb J;cases this) ?_);show m.R.set i _=m.R.set i _;rw[JJ];rfl
  ·rw[aL aI,aL aI];exact bad 5 (by decide)
 rw[aL h1,aL h1];by_cases ι:a.k=2
 ·rw[aN ι,aN ι,ab.oA];cases he:il A.E a.v with
  |none=>exact bad 4 (by decide)
  |some e=>exact ok _ _ _ f rfl (ab.set (m':=p9 {m with R:=m.R.set a.v.toNat (0,0,[])} ⟨2,a.v,0,0,0,0⟩) rfl rfl rfl a.v.toNat (0,0,[]) (λx J=>by cases J) rfl)
 rw[aL ι,aL ι];by_cases aJ:a.k=3
 ·rw[aN aJ,aN aJ,ab.oA];cases he:il A.E a.v with
  |none=>exact bad 4 (by decide)
  |some e=>
   obtain⟨v0,a7,az,hk⟩:=Lk he;rw[jB];dsimp only;rw[ab.spare];cases k8:nf A.E with
   |none=>exact bad 7 (by decide)
   |some i=>exact ok _ _ _ f rfl (ab.set (m':=p9 {m with R:=m.R.set i (2,e.2.1,e.2.2.map (Option.map λx=>f x.1))} ⟨3,a.v,i,0,0,0⟩) rfl rfl rfl i (2,e.2.1,e.2.2) (λx J=>si.2 ⟨e,fa az,J⟩) rfl)
 rw[aL aJ,aL aJ];by_cases cK:a.k=4
 ·rw[aN cK,aN cK,ab.oA];cases he:il A.E a.v with
  |none=>exact bad 4 (by decide)
  |some e=>
   obtain⟨v0,a7,az,hk⟩:=Lk he;rw[jB];dsimp only;by_cases τ:a.b<0\/e.2.1<=a.b
   ·rw[aN τ,aN τ];exact bad 5 (by decide)
   ·rw[aL τ,aL τ,List.getElem?_map];cases aH:e.2.2[a.b.toNat]?with
    |none=>exact ok _ _ _ f rfl ab
    |some q=>
     cases q with
     |none=>exact ok _ _ _ f rfl ab
     |some x=>
      have mU:=ab.sec x (si.2 ⟨e,fa az,fa aH⟩);refine .inr ⟨(by show(0:Int)≠12;decide),?_,f,ab⟩;show({fh with bs:=hS m.k m.d (f x.1)}:gj)={fh with bs:=x.2};rw[mU]
 rw[aL cK,aL cK];by_cases dx:a.k=5
 ·rw[aN dx,aN dx];unfold Kw;rw[ab.oA];cases he:il A.E a.v with
  |none=>exact bad 4 (by decide)
  |some e=>
   obtain⟨v0,a7,az,hk⟩:=Lk he;have apH:gB m.R a.v=some (e.1,e.2.1,e.2.2.map (Option.map λx=>f x.1)):=by rw[ab.oA,he];rfl
   rw[jB];dsimp only;by_cases g1:e.1=2
   ·rw[aN g1,aN g1];exact bad 8 (by decide)
   rw[aL g1,aL g1];by_cases g2:a.b<0\/e.2.1<=a.b
   ·rw[aN g2,aN g2];exact bad 5 (by decide)
   rw[aL g2,aL g2];by_cases g3:a.bs.length≠64
   ·rw[aN g3,aN g3];exact bad 6 (by decide)
   rw[aL g3,aL g3,ab.live,ab.cap];by_cases g4:m.cap<(jn m.R:Int)+1
   ·rw[aN g4,aN g4];exact bad 9 (by decide)
   rw[aL g4,aL g4];by_cases g5:bA.room m.st 2=false
   ·rw[aN g5];exact .inl ⟨rfl,g5,by omega⟩
   rw[aL g5];have mU:ba.lx a.bs:=⟨by omega,aR⟩;obtain⟨dV,I⟩:=ajD h apH g1 (b:=a.b) (by dsimp only;omega) mU (by omega) (by simpa using g5);generalize hp:(gz m a.bs 2).1=m1 at dV I⊢;generalize ag:(gz m a.bs 2).2=x at dV I⊢;obtain⟨f1,f2,f3⟩:=(mC h.gY).1 h.fit;have hu:∀y∈mY A.E,f y.1∈used m.R:=λy ag=>by rw[ab.R,YQ];exact gx.2 ⟨y,ag,rfl⟩
   have kF:=Cl az a.b.toNat (some (A.n,a.bs));have jF:∀y∈mY (xF A.E a.v.toNat a.b.toNat (some (A.n,a.bs))),y∈mY A.E\/y=(A.n,a.bs):=λy ag=>by
    rw[kF]at ag;rcases adZ ag with h1|h1
    ·exact .inl h1
    ·rcases qh h1 with ι|ι
     ·exact .inl (si.2 ⟨e,fa az,ι⟩)
     ·cases ι;exact .inr rfl
   let iL:Nat->dB:=λi=>if i=A.n then x else f i
   have fold:∀y∈mY A.E,iL y.1=f y.1:=λy ag=>aL (λe=>by have:=ab.lt y ag;omega);have PK:iL A.n=x:=aN rfl;refine ok _ _ _ iL rfl ⟨ab.s.trans dV.s.symm,ab.k.trans dV.k.symm,?_,λy ag z aI bM=>?_,λy ag=>?_,λy ag=>?_⟩
   ·show j5 m.R a.v.toNat a.b.toNat (some x)=yJ iL (xF A.E a.v.toNat a.b.toNat (some (A.n,a.bs)));have Wp:m.R[a.v.toNat]?=some (e.1,e.2.1,e.2.2.map (Option.map λx=>f x.1)):=by rw[ab.get,az];rfl
    have same:∀db∈A.E,db.2.2.map (Option.map λx=>iL x.1)=db.2.2.map (Option.map λx=>f x.1):=λdb ej=>by
     apply DW;intro q aH;cases q with
     |none=>rfl
     |some y=>rw[jB,jB,fold y (si.2 ⟨db,ej,aH⟩)]
    have aoL:m.R=yJ iL A.E:=by rw[ab.R];unfold yJ;apply DW;intro db ej;rw[same db ej]
    rw[RW Wp,kF,aoL];unfold yJ;rw[rK];dsimp only;rw[rK,jB,PK,same e (fa az)]
   ·rcases jF y ag with ag|rfl<;>rcases jF z aI with aI|rfl
    ·rw[fold y ag,fold z aI]at bM;exact ab.inj y ag z aI bM
    ·rw[fold y ag]at bM;dsimp only at bM;rw[PK]at bM;exact absurd (bM▸hu y ag) dV.new
    ·rw[fold z aI]at bM;dsimp only at bM;rw[PK]at bM;exact absurd (bM▸hu z aI) dV.new
    ·rfl
   ·show hS m1.k m1.d (iL y.1)=y.2;rw[dV.k,dV.d];rcases jF y ag with ag|rfl
    ·rw[fold y ag,Yj h.gY h.nC dV.lt _ (f2 _ (hu y ag)),aL (λe:f y.1=x=>dV.new (by rw[<-e];exact hu y ag))];exact ab.sec y ag
    ·dsimp only;rw[PK,Yj h.gY h.nC dV.lt _ dV.lt,aN rfl]
   ·show y.1<A.n+1;rcases jF y ag with ag|rfl
    ·have:=ab.lt y ag;omega
    ·exact JV _
 rw[aL dx,aL dx];by_cases h8:a.k=6
 ·rw[aN h8,aN h8,ab.oA];cases he:il A.E a.v with
  |none=>exact bad 4 (by decide)
  |some e=>
   obtain⟨v0,a7,az,hk⟩:=Lk he;rw[jB];dsimp only;by_cases g1:e.1=2
   ·rw[aN g1,aN g1];exact bad 8 (by decide)
   rw[aL g1,aL g1];by_cases g2:a.b<0\/e.2.1<=a.b
   ·rw[aN g2,aN g2];exact bad 5 (by decide)
   rw[aL g2,aL g2];have Wp:m.R[a.v.toNat]?=some (e.1,e.2.1,e.2.2.map (Option.map λx=>f x.1)):=by rw[ab.get,az];rfl
   rw[Cl az];refine ok _ _ _ f rfl (ab.set (m':=p9 {m with R:=j5 m.R a.v.toNat a.b.toNat none} ⟨5,a.v,0,a.b,0,0⟩) rfl rfl rfl a.v.toNat (e.1,e.2.1,e.2.2.set a.b.toNat none) (λx J=>?_) ?_)
   ·rcases qh J with J|J
    ·exact si.2 ⟨e,fa az,J⟩
    ·cases J
   ·show j5 m.R _ _ _=_;rw[RW Wp,rK];rfl
 rw[aL h8,aL h8];by_cases hq:a.k=7
 ·rw[aN hq,aN hq];obtain⟨s1,s2,jO,mI,Hn,NH⟩:=agT h aH;exact ok _ _ _ f rfl (ab.same h.base mI Hn jO s2)
 rw[aL hq,aL hq];by_cases dD:a.k=8
 ·rw[aN dD,aN dD,ab.live,ab.cap];exact ok _ _ _ f rfl ab
 rw[aL dD,aL dD,ab.oA];cases he:il A.E a.v with
 |none=>exact bad 4 (by decide)
 |some e=>exact ok _ _ _ f rfl ab
def vz(m:aQ)(a:Ask):aQ×gj:=if(fi (tick m) a).2.e=12 then fi (tick (ra (tick (tick m)))) a else fi (tick m) a
structure Ok(m:aQ)(A:c6)(n:Nat):Prop where
 inv:Inv m
 gC:zm m n
 NL:∃f,mu m A f
theorem Ok.more{m:aQ}{A:c6}{n fG:Nat}(h:Ok m A n)(ar:n<=fG):Ok m A fG:=⟨h.inv,h.gC.more ar,h.NL⟩
theorem Ok.tick{m:aQ}{A:c6}{n:Nat}(h:Ok m A n):Ok (tick m) A (n+1):=by obtain⟨f,bm⟩:=h.NL;exact⟨av3 h.inv,av2 h.gC,f,bm.same h.inv.base rfl rfl (jh.refl h.inv.dev) rfl⟩
theorem Ok.clean{m:aQ}{A:c6}{n:Nat}(h:Ok m A n)(ar:n<=900000):Ok (ra m) A (n+1):=by obtain⟨f,bm⟩:=h.NL;have ab:=h.gC.seq;have π:=h.gC.clock;obtain⟨I,⟨g,c⟩,_⟩:=abl h.inv (by omega) π.1;exact⟨I,⟨by rw[c.seq];omega,by rw[c.clock];omega,by rw[c.dl];exact eR _,by rw[c.loose];exact eR _⟩,_,bm.clean c⟩
theorem Ok.check{m:aQ}{A:c6}{n:Nat}(h:Ok m A n)(ar:n<=900000):Ok (r9 m) A (n+1):=by obtain⟨f,bm⟩:=h.NL;have ab:=h.gC.seq;have π:=h.gC.clock;obtain⟨I,c⟩:=TR h.inv (by omega);exact⟨I,⟨by rw[c.seq];omega,by rw[c.clock];omega,by rw[c.dl];exact eR _,by rw[c.loose];exact eR _⟩,_,bm.same h.inv.base c.s c.k c.low c.R⟩
theorem Ok.do{m:aQ}{A:c6}{n:Nat}(h:Ok m A n)(ar:n<=900000){a:Ask}(aR:∀x∈a.bs,0<=x/\x<256):
  ((fi m a).2.e=12/\(fi m a).1=m/\bA.room m.st 2=false/\(jn m.R:Int)+1<=m.cap)\/((fi m a).2.e≠12/\(fi m a).2=(jf A a).2/\Ok (fi m a).1 (jf A a).1 (n+1)):=by
 obtain⟨f,bm⟩:=h.NL;have ab:=h.gC.seq;have pS:=anl h.inv (by omega) aR;rcases avd h.inv (by omega) bm aR with⟨h1,ι,aJ⟩|⟨h1,ι,aJ⟩
 ·exact .inl ⟨h1,pS.bad (by rw[h1];decide),ι,aJ⟩
 ·exact .inr ⟨h1,ι,pS.inv,pS.gC _ h.gC,aJ⟩
theorem Ok.full{m:aQ}{A:c6}{n:Nat}(h:Ok m A n)(ar:n<=800000){a:Ask}(aR:∀x∈a.bs,0<=x/\x<256):
  (vz m a).2.e≠12/\(vz m a).2=(jf A a).2/\Ok (vz m a).1 (jf A a).1 (n+5):=by
 unfold vz;rcases h.tick.do (by omega) aR with⟨h1,ι,aJ,cK⟩|⟨h1,ι,aJ⟩
 ·rw[aN h1];have Jd:=h.tick.tick;have ab:=Jd.gC.seq;have π:=Jd.gC.clock;have gD:=Jd.clean (by omega);rcases gD.tick.do (by omega) aR with⟨aV,bK,b4,cI⟩|⟨aV,bK,b4⟩
  ·obtain⟨I,⟨g,c⟩,φ⟩:=abl Jd.inv (by omega) π.1
   have:=φ aJ cK
   rw[show(aQ.tick (ra (aQ.tick (aQ.tick m)))).st=(ra (aQ.tick (aQ.tick m))).st from rfl,this]at b4;cases b4
  ·exact⟨aV,bK,b4.more (by omega)⟩
 ·rw[aL h1];exact⟨h1,ι,aJ.more (by omega)⟩
theorem RI{α:Type}(n i:Nat)(a:α):(List.replicate n a).set i a=List.replicate n a:=by
 apply rL;intro j;rw[List.getElem?_set];by_cases h:i=j
 ·subst h;rw[aN rfl,List.getElem?_replicate,me]
 ·rw[aL h]
def tN(n:Nat):List aq:=List.replicate n ba.gN
theorem XT(n:Nat):∀(j:Nat)(d:ba.du)(i:Int),d.now=tN n->(nM d i (List.replicate j ba.gN)).now=tN n
 |0,d,i,h=>h
 |j+1,d,i,h=>by rw[DO];exact XT n j _ _ (by show d.now.set i.toNat ba.gN=_;rw[h];exact RI _ _ _)
def Fw(n:Nat):ba.du:=lC (ba.dv (ba.dv (ba.fresh n) 0 ba.gN) 12 ba.gN)
def Fx(n:Nat):ba.du:=nM (Fw n) 24 (List.replicate 16 ba.gN)
def uj(n:Nat)(s k:Int):ba.du:=wb (Fx n) s k 1 (cH [])
theorem ab7(n:Nat):(Fw n).now=tN n:=by show((tN n).set _ ba.gN).set _ ba.gN=tN n;rw[tN,RI,RI]
theorem aog(n:Nat):(Fx n).now=tN n:=XT n 16 _ _ (ab7 n)
section
variable{s k:Int}(ea:6<=s/\s<=24/\2<=k/\k<=16)
include ea
theorem IL:mN s k (cH []):=by
 refine(mC ea).2 ⟨by decide,λx J=>?_,?_⟩
 ·have:used (cH [])=[]:=by decide
  rw[this]at J;cases J
 ·have:jn (cH [])=0:=by decide
  rw[this]
  have:=qJ (show(0:Int)<=s-4 by omega) (show(0:Int)<=k by omega) (by decide) (by omega)
  omega
omit ea in
theorem ab0:∀e∈cH [],mG e:=(fV.zero default).ok
omit ea in
theorem seq1:vV 1:=⟨by decide,by decide⟩
omit ea in
theorem atG(k:Int):fg k (cH [])=fg 2 (cH []):=rfl
omit ea in
theorem arQ(s k:Int):∃q3 ov,jg s k 1 (fg k (cH []))=[q3,ov]:=by
 have h:(jg s k 1 (fg k (cH []))).length=2:=by rw[LS,atG];rfl
 match ι:jg s k 1 (fg k (cH []))with
 |[a,b]=>exact⟨a,b,rfl⟩
 |[]=>rw[ι]at h;simp at h
 |[a]=>rw[ι]at h;simp at h
 |a::b::c::l=>rw[ι]at h;simp at h
omit ea in
theorem ayE:nE ba.gN=false:=by decide+kernel
omit ea in
theorem al1:Bb []=(cH [],0,0,0,11):=aat λg=>by have:=g.aD;simp at this
theorem alR{d:ba.du}{q3 ov:aq}(dd:jg s k 1 (fg k (cH []))=[q3,ov])(g0:d.now[0]?=some ba.gN)(g12:d.now[12]?=some q3)(g13:d.now[13]?=some ov):wN d 2=(cH [],s,k,1):=by
 have B4:xt d (12*0)=[]:=by rw[XJ (s:=ba.gN) (by simpa using g0),aL (λea=>by rw[ayE]at ea;cases ea.1)]
 obtain⟨g,aP,bM,gA,jE⟩:=arR seq1 (IL ea) ab0 rfl;have Vj:=aau g;rw[aP,bM,gA,jE]at Vj;rw[dd]at g bM gA jE Vj;have dJ:nE q3=true:=g.yn;have hq:dz q3 4 4=1:=jE;have h1:dz q3 10 1=1:=by have e2:dz q3 10 1=(([q3,ov].length:Nat):Int)-1:=g.fW;simpa using e2
 have MZ:xt d (12*1)=[q3,ov]:=by rw[XJ (s:=q3) (by simpa using g12),aN ⟨dJ,by rw[hq];decide⟩,h1];have a:=drop_take (l:=d.now) (a:=12) (j:=0) (s:=q3) (by simpa using g12);have b:=drop_take (l:=d.now) (a:=12) (j:=1) (s:=ov) (by simpa using g13);have e:(1+(1:Int).toNat)=1+1:=rfl;rw[e,b,a];rfl
 show Cv (Cv TF (Bb (xt d (12*0)))) (Bb (xt d (12*1)))=_;rw[B4,MZ,al1,Vj];rfl
omit ea in
theorem aof{n:Nat}{q3 ov:aq}(dd:jg s k 1 (fg k (cH []))=[q3,ov]):(uj n s k).now=((tN n).set 13 ov).set 12 q3:=by have ah:=aog n;unfold uj;generalize Fx n=d at ah⊢;unfold wb;rw[dd];show(d.now.set 13 ov).set 12 q3=_;rw[ah]
theorem ab8{n:Nat}(ar:40<=n):wN (uj n s k) 2=(cH [],s,k,1)/\qF 1 (uj n s k).now 16 0=([],0)/\(uj n s k).now.length=n:=by
 obtain⟨q3,ov,dd⟩:=arQ s k;have Dm:=aof (n:=n) dd;refine⟨alR ea dd ?_ ?_ ?_,?_,?_⟩
 ·rw[Dm,List.getElem?_set,aL (by omega),List.getElem?_set,aL (by omega),tN,List.getElem?_replicate,aN (by omega)]
 ·rw[Dm,List.getElem?_set,aN rfl,aN (by rw[hQ,tN,me];omega)]
 ·rw[Dm,List.getElem?_set,aL (by omega),List.getElem?_set,aN rfl,aN (by rw[tN,me];omega)]
 ·have o7:(uj n s k).now.getD (24+0) []=ba.gN:=by
   rw[List.getD_eq_getElem?_getD,Dm,List.getElem?_set,aL (by omega),List.getElem?_set,aL (by omega),tN,List.getElem?_replicate,aN (by omega)];rfl
  unfold qF;rw[o7]
  have:rO 1 ((0:Nat):Int) ba.gN=none:=by
   have h:(rO 1 0 ba.gN).isNone=true:=by decide+kernel
   exact Option.isNone_iff_eq_none.1 h
  rw[this]
 ·rw[Dm,hQ,hQ,tN,me]
end
def yd(s:Int):aq:=k6 s.toNat (lays (used (cH []))) []
def su(s k:Int):bA.hU:=(bA.begun s k (yd s)).getD ⟨0,0,[],0,0⟩
def vS(s k:Int):aQ:={s:=s,k:=k,d:=uj (40+s*k).toNat s k,R:=cH [],st:=su s k,seq:=1,used:=16,dl:=[],mm:=false,clock:=0,stamps:=List.replicate s.toNat 0}
def sj(s k:Int):c6:=⟨s,k,List.replicate 8 (0,0,[]),0⟩
def mO(s k:Int):Prop:=6<=s/\s<=14/\2<=k/\k<=6
theorem acj{P:Int->Int->Prop}(h:∀a:_root_.Fin 9,∀b:_root_.Fin 5,P (6+a.val) (2+b.val)){s k:Int}(g:mO s k):P s k:=by
 have:=h ⟨(s-6).toNat,by have:=g.1;have:=g.2.1;omega⟩ ⟨(k-2).toNat,by have:=g.2.2;omega⟩
 have aP:(6:Int)+((s-6).toNat:Nat)=s:=by have:=g.1;omega
 have bM:(2:Int)+((k-2).toNat:Nat)=k:=by have:=g.2.2.1;omega
 dsimp only at this;rw[aP,bM]at this;exact this
theorem avz:∀a:_root_.Fin 9,∀b:_root_.Fin 5,(λ(s k:Int)=>(bA.begun s k (yd s)).isSome=true/\(su s k).hi=s/\(su s k).blocks=k/\2<=(su s k).free.length) (6+a.val) (2+b.val):=by decide+kernel
theorem agI{s k:Int}(g:mO s k):bA.begun s k (yd s)=some (su s k)/\(su s k).hi=s/\(su s k).blocks=k/\2<=(su s k).free.length:=by obtain⟨h1,ι⟩:=acj (P:=λs k=>(bA.begun s k (yd s)).isSome=true/\(su s k).hi=s/\(su s k).blocks=k/\2<=(su s k).free.length) avz g;obtain⟨x,J⟩:=JQ.1 h1;refine⟨?_,ι⟩;unfold su;rw[J];rfl
theorem mO.wide{s k:Int}(g:mO s k):6<=s/\s<=24/\2<=k/\k<=16:=by unfold mO at g;omega
theorem mO.prod{s k:Int}(g:mO s k):12<=s*k/\s*k<=84:=by unfold mO at g;have h1:6*2<=s*k:=qJ (by omega) (by omega) (by omega) (by omega);have ι:s*k<=14*6:=qJ (by omega) (by omega) (by omega) (by omega);omega
theorem auX(d:ba.du)(s k q:Int)(R:bZ):(wb d s k q R).off=(nM d (q8 q+1) (jg s k q (fg k R)).tail).off/\(wb d s k q R).after=(nM d (q8 q+1) (jg s k q (fg k R)).tail).after:=⟨rfl,rfl⟩
theorem XR:∀(l:List aq)(d:ba.du)(i:Int),(nM d i l).off=d.off/\(nM d i l).after=d.after/\(nM d i l).loose.length=d.loose.length+l.length
 |[],d,i=>⟨rfl,rfl,rfl⟩
 |x::r,d,i=>by obtain⟨h1,ι,aJ⟩:=XR r (ba.dv d i x) (i+1);refine⟨h1,ι,?_⟩;show(nM (ba.dv d i x) (i+1) r).loose.length=_;rw[aJ];show(d.loose++[(i,x)]).length+_=_;rw[fw,kU,kU,G8];omega
theorem aoh(n:Nat):(Fx n).off=false/\(Fx n).after=-1:=by obtain⟨h1,ι,_⟩:=XR (List.replicate 16 ba.gN) (Fw n) 24;exact⟨h1,ι⟩
theorem ab9(n:Nat)(s k:Int):(uj n s k).off=false/\(uj n s k).after=-1:=by obtain⟨h1,ι⟩:=auX (Fx n) s k 1 (cH []);obtain⟨aV,bK,_⟩:=XR (jg s k 1 (fg k (cH []))).tail (Fx n) (q8 1+1);obtain⟨aP,bM⟩:=aoh n;exact⟨(h1.trans aV).trans aP,(ι.trans bK).trans bM⟩
theorem asA{s k:Int}(g:mO s k)(bH:ba.Good (uj (40+s*k).toNat s k))(cb:bA.Good (su s k)):Ok (vS s k) (sj s k) 2:=by
 have hw:=g.wide;have hp:=g.prod;obtain⟨f1,f2,f3⟩:=ab8 hw (n:=(40+s*k).toNat) (by omega);obtain⟨t1,t2,t3,t4⟩:=agI g;have hu:used (cH [])=[]:=by decide
 refine⟨⟨hw,rfl,ab0,IL hw,cb,t2,t3,t4,?_,?_,bH,(ab9 _ s k).1,(ab9 _ s k).2,?_,?_,?_,?_,by show 16<=16;omega,by show(1:Int)<=1;omega⟩,⟨?_,?_,?_,?_⟩,?_⟩
 ·intro x J;have J:x∈used (cH []):=J;rw[hu]at J;cases J
 ·intro x J;have J:x∈used (cH []):=J;rw[hu]at J;cases J
 ·show((uj (40+s*k).toNat s k).now.length:Int)=40+s*k;rw[f3];omega
 ·show(List.replicate s.toNat (0:Int)).length=s.toNat;rw[me]
 ·intro t aS
  have:=nb (show t∈List.replicate s.toNat (0:Int)from aS)
  show 0<=t/\t<=0;omega
 ·intro d ah;cases ah
 ·show(1:Int)<=_;omega
 ·show(0:Int)<=0/\(0:Int)<=_;omega
 ·exact eR _
 ·exact eR _
 ·refine⟨λ_=>(0,0),rfl,rfl,rfl,?_,?_,?_⟩
  all_goals(intro x J;have J:x∈mY (List.replicate 8 ((0,0,[]):hn)):=J;exact absurd J (by rw[show mY (List.replicate 8 ((0,0,[]):hn))=[]by decide];exact oi))
end Go.Proofs.YtcpdfhkhaekekaaGreat.G.aQ
namespace Go.Proofs.YtcpdfhkhaekekaaGreat.G.cY
open Go.bJ Go.RowKit cF dI eI cS aQ
def h6(w:World)(T:List Nat)(i:Nat):Prop:=∃e∈T,Typed w e i
theorem h6.off{w:World}{T:List Nat}{i:Nat}(h:h6 w T i){f:Nat}(k:Typed w f i)(ar:f∉T):False:=by obtain⟨e,he,aS⟩:=h;exact aS.ne k (λbM=>ar (bM▸he)) rfl
theorem h6.MT{w:World}{T U:List Nat}{i:Nat}(h:h6 w T i)(k:h6 w U i)(ar:(T.all λe=>!U.contains e)=true):False:=by
 obtain⟨e,he,aS⟩:=h;refine k.off aS λhm=>?_
 have:=DS.1 ar e he
 rw[List.contains_iff_mem.2 hm]at this;cases this
abbrev aag:List Nat:=[sx,xK]
abbrev aaf:List Nat:=[Sx,Sy,Sz]
abbrev alv:List Nat:=[Cu]
abbrev aah:List Nat:=[u3,cz]
abbrev Iw:List Nat:=[u4,wo,y9]
abbrev alu:List Nat:=[fS]
abbrev c0:List Nat:=[cz]
abbrev CJ:List Nat:=[sy]
abbrev ow:List Nat:=[sy,sx,xK,Sx,Sy,Sz,Cu,u3,cz,fS]
theorem h6.mono{w:World}{T U:List Nat}{i:Nat}(h:h6 w T i)(ab:∀e∈T,e∈U):h6 w U i:=by obtain⟨e,he,aS⟩:=h;exact⟨e,ab e he,aS⟩
theorem H2{w:World}{i:Nat}:tR w i↔h6 w Iw i:=by
 unfold tR h6;constructor
 ·rintro(h|h|h)
  ·exact⟨_,by simp,h⟩
  ·exact⟨_,by simp,h⟩
  ·exact⟨_,by simp,h⟩
 ·rintro⟨e,he,h⟩;simp only[fB,oi,py]at he;rcases he with rfl|rfl|rfl
  ·exact .inl h
  ·exact .inr (.inl h)
  ·exact .inr (.inr h)
section off
variable{w w':World}{S:bl}{T:List Nat}
theorem hE(k:Kp w w' S)(eU:∀i,S i->h6 w T i){B:Nat}{e:TypeId}{sz:Nat}{p:γ}{n c:Nat}{xs:aY}(o:μ w B e sz p n c xs)(ar:e∉T):μ w' B e sz p n c xs:=
 o.aO k λx J I=>(eU _ I).off (o.typed J).1 ar
theorem Ls{B bw:Nat}{xs:List (b9.cZ×Int)}{aA:Int}{D:bl}(h:b9.nV w B bw xs aA D):∀i,D i->h6 w aag i:=λi I=>by
 rcases(h.typed I).1 with t|t
 ·exact⟨_,by simp,t⟩
 ·exact⟨_,by simp,t⟩
theorem Ul{B pd:Nat}{d:ba.du}{D:bl}(h:ba.hF w B pd d D):∀i,D i->h6 w aaf i:=λi I=>by
 rcases(h.typed I).1 with t|t|t
 ·exact⟨_,by simp,t⟩
 ·exact⟨_,by simp,t⟩
 ·exact⟨_,by simp,t⟩
theorem Yx{B ps:Nat}{s:bA.hU}{D:bl}(h:bA.mr w B ps s D):∀i,D i->h6 w aah i:=λi I=>by
 rcases(h.typed I).1 with t|t
 ·exact⟨_,by simp,t⟩
 ·exact⟨_,by simp,t⟩
theorem wY(k:Kp w w' S)(eU:∀i,S i->h6 w T i){B bw:Nat}{xs:List (b9.cZ×Int)}{aA:Int}{D:bl}(h:b9.nV w B bw xs aA D)(ar:(T.all λe=>!aag.contains e)=true)(dD:dt∉T):b9.nV w' B bw xs aA D:=
 h.aO k (λi I ab=>(eU i ab).MT (Ls h i I) ar) λi ab aS=>(eU i ab).off aS dD
theorem wU(k:Kp w w' S)(eU:∀i,S i->h6 w T i){B pd:Nat}{d:ba.du}{D:bl}(h:ba.hF w B pd d D)(ar:(T.all λe=>!aaf.contains e)=true):ba.hF w' B pd d D:=
 h.aO k λi I ab=>(eU i ab).MT (Ul h i I) ar
theorem Ax(k:Kp w w' S)(eU:∀i,S i->h6 w T i){B ps:Nat}{s:bA.hU}{D:bl}(h:bA.mr w B ps s D)(ar:(T.all λe=>!aah.contains e)=true):bA.mr w' B ps s D:=
 h.aO k λi I ab=>(eU i ab).MT (Yx h i I) ar
theorem xE(k:Kp w w' S)(eU:∀i,S i->h6 w T i){B cf:Nat}{R:bZ}(h:kM w B cf R)(ar:Cu∉T)(aS:(T.all λe=>!Iw.contains e)=true):kM w' B cf R:=
 h.aO k (λab=>(eU _ ab).off h.typed.1 ar) λi ab fe=>(eU i ab).MT (H2.1 fe) aS
end off
structure wH where
 bw:Nat
 cf:Nat
 ps:Nat
 Bj:γ
 dc:Nat
 kW:Nat
 sc:Nat
def mZ(pd:Nat)(q:wH)(m:aQ):aY:=
 [.pointer (some ⟨q.bw,0,none⟩),.pointer (some ⟨pd,0,none⟩),.int .i64 m.s,.int .i64 m.k,.pointer (some ⟨q.cf,0,none⟩),.pointer (some ⟨q.ps,0,none⟩),.int .i64 m.seq,.int .i64 (m.used:Int),.slice q.Bj m.dl.length q.dc,.bool m.mm,.int .i64 m.clock,.slice (some ⟨q.kW,0,none⟩) m.stamps.length q.sc,.bool false]
structure fI(w:World)(pp pd:Nat)(q:wH)(dm dH dq:bl)(m:aQ)(xs:List (b9.cZ×Int))(aA:Int):Prop where
 cell:μ w 0 sy 13 (some ⟨pp,0,none⟩) 1 1 (mZ pd q m)
 gate:b9.nV w 0 q.bw xs aA dm
 dev:ba.hF w 0 pd m.d dH
 mf:kM w 0 q.cf m.R
 st:bA.mr w 0 q.ps m.st dq
 dl:μ w 0 fS 5 q.Bj m.dl.length q.dc (kc m.dl)
 stamps:μ w 0 cz 1 (some ⟨q.kW,0,none⟩) m.stamps.length q.sc (bA.cW m.stamps)
 apart:¬dq q.kW
def km(pp:Nat)(q:wH)(dm dH dq:bl)(i:Nat):Prop:=i=pp\/dm i\/dH i\/i=q.cf\/dq i\/(∃x,q.Bj=some x/\x.block=i)\/i=q.kW
def hY(w:World)(pp pd:Nat)(m:aQ)(xs:List (b9.cZ×Int))(aA:Int)(D:bl):Prop:=∃q dm dH dq,fI w pp pd q dm dH dq m xs aA/\∀i,D i↔km pp q dm dH dq i
theorem fI.im{w:World}{pp pd:Nat}{q:wH}{dm dH dq:bl}{m:aQ}{xs:List (b9.cZ×Int)}{aA:Int}(h:fI w pp pd q dm dH dq m xs aA){i:Nat}(I:km pp q dm dH dq i):h6 w ow i/\i<w.heap.size:=by
 rcases I with rfl|I|I|rfl|I|⟨x,J,rfl⟩|rfl
 ·exact⟨⟨_,by simp,(h.cell.typed rfl).1⟩,(h.cell.ge rfl).2⟩
 ·exact⟨(Ls h.gate i I).mono (by decide),(h.gate.typed I).2.2⟩
 ·exact⟨(Ul h.dev i I).mono (by decide),(h.dev.typed I).2.2⟩
 ·exact⟨⟨_,by simp,h.mf.typed.1⟩,h.mf.typed.2.2⟩
 ·exact⟨(Yx h.st i I).mono (by decide),(h.st.typed I).2.2⟩
 ·exact⟨⟨_,by simp,(h.dl.typed J).1⟩,(h.dl.ge J).2⟩
 ·exact⟨⟨_,by simp,(h.stamps.typed rfl).1⟩,(h.stamps.ge rfl).2⟩
theorem hY.im{w:World}{pp pd:Nat}{m:aQ}{xs:List (b9.cZ×Int)}{aA:Int}{D:bl}(h:hY w pp pd m xs aA D){i:Nat}(I:D i):h6 w ow i/\i<w.heap.size:=by obtain⟨q,dm,dH,dq,h,cn⟩:=h;exact h.im ((cn i).1 I)
theorem fI.aO{w w':World}{pp pd:Nat}{q:wH}{dm dH dq:bl}{m:aQ}{xs:List (b9.cZ×Int)}{aA:Int}(h:fI w pp pd q dm dH dq m xs aA){S:bl}(k:Kp w w' S)(ab:∀i,km pp q dm dH dq i->¬S i)(aS:∀i,S i->¬tR w i)(dD:∀i,S i->¬Typed w dt i):fI w' pp pd q dm dH dq m xs aA:=
 ⟨h.cell.aO k λx J=>by cases J;exact ab _ (.inl rfl),h.gate.aO k (λi I=>ab i (.inr (.inl I))) dD,h.dev.aO k λi I=>ab i (.inr (.inr (.inl I))),h.mf.aO k (ab _ (.inr (.inr (.inr (.inl rfl))))) aS,h.st.aO k λi I=>ab i (.inr (.inr (.inr (.inr (.inl I))))),h.dl.aO k λx J=>ab _ (.inr (.inr (.inr (.inr (.inr (.inl ⟨x,J,rfl⟩)))))),h.stamps.aO k λx J=>by cases J;exact ab _ (.inr (.inr (.inr (.inr (.inr (.inr rfl)))))),h.apart⟩
theorem hY.aO{w w':World}{pp pd:Nat}{m:aQ}{xs:List (b9.cZ×Int)}{aA:Int}{D:bl}(h:hY w pp pd m xs aA D){S:bl}(k:Kp w w' S)(ab:∀i,D i->¬S i)(aS:∀i,S i->¬tR w i)(dD:∀i,S i->¬Typed w dt i):hY w' pp pd m xs aA D:=by obtain⟨q,dm,dH,dq,h,cn⟩:=h;exact⟨q,dm,dH,dq,h.aO k (λi I=>ab i ((cn i).2 I)) aS dD,cn⟩
theorem fI.ex{w w':World}{pp pd:Nat}{q:wH}{dm dH dq:bl}{m:aQ}{xs:List (b9.cZ×Int)}{aA:Int}(h:fI w pp pd q dm dH dq m xs aA)(x:η w w'):fI w' pp pd q dm dH dq m xs aA:=h.aO x (λ_ _ h=>h) (λ_ h=>h.elim) λ_ h=>h.elim
theorem hY.ex{w w':World}{pp pd:Nat}{m:aQ}{xs:List (b9.cZ×Int)}{aA:Int}{D:bl}(h:hY w pp pd m xs aA D)(x:η w w'):hY w' pp pd m xs aA D:=h.aO x (λ_ _ h=>h) (λ_ h=>h.elim) λ_ h=>h.elim
structure er(w0:World)(eC:bl)(w:World)(pp pd:Nat)(m:aQ)(xs:List (b9.cZ×Int))(aA:Int)(D:bl):Prop where
 is:hY w pp pd m xs aA D
 aO:Kp w0 w eC
 sub:∀i,D i->eC i\/w0.heap.size<=i
theorem er.start{w:World}{pp pd:Nat}{m:aQ}{xs:List (b9.cZ×Int)}{aA:Int}{D:bl}(h:hY w pp pd m xs aA D):er w D w pp pd m xs aA D:=⟨h,Kp.refl _ _,λ_ h=>.inl h⟩
theorem er.ex{w0 w w':World}{eC:bl}{pp pd:Nat}{m:aQ}{xs:List (b9.cZ×Int)}{aA:Int}{D:bl}(h:er w0 eC w pp pd m xs aA D)(x:η w w'):er w0 eC w' pp pd m xs aA D:=⟨h.is.ex x,h.aO.gL (x.aO _),h.sub⟩
theorem er.trans{w0 w w':World}{eC D bk:bl}{pp pd:Nat}{m m':aQ}{xs vc:List (b9.cZ×Int)}{aA qt:Int}(h:er w0 eC w pp pd m xs aA D)(k:er w D w' pp pd m' vc qt bk):er w0 eC w' pp pd m' vc qt bk:=
 ⟨k.is,Kp.trans h.aO k.aO (λ_ _ h=>h) (λi I ah=>by rcases h.sub i ah with h|h;exact h;omega),λi I=>by
  rcases k.sub i I with h1|h1
  ·exact h.sub i h1
  ·exact .inr (gE h.aO.size h1)⟩
theorem er.asM{w0 w:World}{eC D:bl}{pp pd:Nat}{m:aQ}{xs:List (b9.cZ×Int)}{aA:Int}(h:er w0 eC w pp pd m xs aA D){b:Nat}(τ:¬eC b)(ak:b<w0.heap.size):¬D b:=λah=>by
 rcases h.sub b ah with h1|h1
 ·exact τ h1
 ·omega
theorem er.dS{w0 w:World}{eC D:bl}{pp pd:Nat}{m m0:aQ}{xs OJ:List (b9.cZ×Int)}{aA N9:Int}(h:er w0 eC w pp pd m xs aA D)(aF:hY w0 pp pd m0 OJ N9 eC){B:Nat}{e:TypeId}{sz:Nat}{p:γ}{n c:Nat}{vs:aY}(o:μ w0 B e sz p n c vs)(ar:e∉ow):μ w B e sz p n c vs:=
 hE h.aO (λi I=>(aF.im I).1) o ar
open Tryz
section step
variable{w w':World}{pp pd:Nat}{q:wH}{dm dH dq:bl}{m:aQ}{xs:List (b9.cZ×Int)}{aA:Int}{D:bl}
theorem fI.iW(cn:∀i,D i↔km pp q dm dH dq i){qf:wH}{sE q1 ve:bl}{m':aQ}{vc:List (b9.cZ×Int)}{qt:Int}(h1:fI w' pp pd qf sE q1 ve m' vc qt)(k:Kp w w' (km pp q dm dH dq))(sub:∀i,km pp qf sE q1 ve i->km pp q dm dH dq i\/w.heap.size<=i):
  er w D w' pp pd m' vc qt (km pp qf sE q1 ve):=
 ⟨⟨qf,sE,q1,ve,h1,λi=>og⟩,k.mono λi _ h=>(cn i).2 h,λi I=>(sub i I).imp_left (cn i).2⟩
theorem fI.R4(h:fI w pp pd q dm dH dq m xs aA){d':ba.du}(a:ba.Ep w 0 pd d' dH w'):∃q1,fI w' pp pd q dm q1 dq {m with d:=d'} xs aA/\Kp w w' (km pp q dm dH dq)/\∀i,km pp q dm q1 dq i->km pp q dm dH dq i\/w.heap.size<=i:=by
 obtain⟨q1,h1,_,k,ab⟩:=a;have c8:=Ul h.dev;refine⟨q1,⟨hE k c8 h.cell (by decide),wY k c8 h.gate (by decide) (by decide),h1,xE k c8 h.mf (by decide) (by decide),Ax k c8 h.st (by decide),hE k c8 h.dl (by decide),hE k c8 h.stamps (by decide),h.apart⟩,k.mono λi _ I=>.inr (.inr (.inl I)),λi I=>?_⟩;rcases I with I|I|I|I
 ·exact .inl (.inl I)
 ·exact .inl (.inr (.inl I))
 ·exact(ab i I).imp_left λh=>.inr (.inr (.inl h))
 ·exact .inl (.inr (.inr (.inr I)))
theorem fI.agM(h:fI w pp pd q dm dH dq m xs aA){vc:List (b9.cZ×Int)}{qt:Int}(a:b9.SY w 0 q.bw vc qt dm w'):∃sE,fI w' pp pd q sE dH dq m vc qt/\Kp w w' (km pp q dm dH dq)/\∀i,km pp q sE dH dq i->km pp q dm dH dq i\/w.heap.size<=i:=by
 obtain⟨sE,h1,k,ab⟩:=a;have c8:=Ls h.gate;refine⟨sE,⟨hE k c8 h.cell (by decide),h1,wU k c8 h.dev (by decide),xE k c8 h.mf (by decide) (by decide),Ax k c8 h.st (by decide),hE k c8 h.dl (by decide),hE k c8 h.stamps (by decide),h.apart⟩,k.mono λi _ I=>.inr (.inl I),λi I=>?_⟩;rcases I with I|I|I
 ·exact .inl (.inl I)
 ·exact(ab i I).imp_left λh=>.inr (.inl h)
 ·exact .inl (.inr (.inr I))
theorem fI.NQ(h:fI w pp pd q dm dH dq m xs aA){wI:bZ}(a:oZ w 0 q.cf wI w'):fI w' pp pd q dm dH dq {m with R:=wI} xs aA/\Kp w w' (km pp q dm dH dq):=by obtain⟨h1,k⟩:=a;have c8:∀i,i=q.cf->h6 w alv i:=λi I=>I▸⟨_,by simp,h.mf.typed.1⟩;exact⟨⟨hE k c8 h.cell (by decide),wY k c8 h.gate (by decide) (by decide),wU k c8 h.dev (by decide),h1,Ax k c8 h.st (by decide),hE k c8 h.dl (by decide),hE k c8 h.stamps (by decide),h.apart⟩,k.mono λi _ I=>.inr (.inr (.inr (.inl I)))⟩
theorem fI.agN(h:fI w pp pd q dm dH dq m xs aA){xG:bA.hU}(a:bA.Im w 0 q.ps xG dq w'):∃ve,fI w' pp pd q dm dH ve {m with st:=xG} xs aA/\Kp w w' (km pp q dm dH dq)/\∀i,km pp q dm dH ve i->km pp q dm dH dq i\/w.heap.size<=i:=by
 obtain⟨ve,h1,k,ab⟩:=a;have c8:=Yx h.st;refine⟨ve,⟨hE k c8 h.cell (by decide),wY k c8 h.gate (by decide) (by decide),wU k c8 h.dev (by decide),xE k c8 h.mf (by decide) (by decide),h1,hE k c8 h.dl (by decide),h.stamps.aO k λx J I=>by cases J;exact h.apart I,λI=>?_⟩,k.mono λi _ I=>.inr (.inr (.inr (.inr (.inl I)))),λi I=>?_⟩
 ·rcases ab _ I with h1|h1
  ·exact h.apart h1
  ·have:=(h.stamps.ge rfl).2
   dsimp only at this;omega
 rcases I with I|I|I|I|I|I
 ·exact .inl (.inl I)
 ·exact .inl (.inr (.inl I))
 ·exact .inl (.inr (.inr (.inl I)))
 ·exact .inl (.inr (.inr (.inr (.inl I))))
 ·exact(ab i I).imp_left λh=>.inr (.inr (.inr (.inr (.inl h))))
 ·exact .inl (.inr (.inr (.inr (.inr (.inr I)))))
theorem fI.agL(h:fI w pp pd q dm dH dq m xs aA){m':aQ}(k:Kp w w' λi=>i=pp)(o:μ w' 0 sy 13 (some ⟨pp,0,none⟩) 1 1 (mZ pd q m'))(ah:m'.d=m.d)(iU:m'.R=m.R)(cb:m'.st=m.st)(ym:m'.dl=m.dl)(k8:m'.stamps=m.stamps):fI w' pp pd q dm dH dq m' xs aA/\Kp w w' (km pp q dm dH dq):=by have c8:∀i,i=pp->h6 w CJ i:=λi I=>I▸⟨_,by simp,(h.cell.typed rfl).1⟩;refine⟨⟨o,wY k c8 h.gate (by decide) (by decide),by rw[ah];exact wU k c8 h.dev (by decide),by rw[iU];exact xE k c8 h.mf (by decide) (by decide),by rw[cb];exact Ax k c8 h.st (by decide),by rw[ym];exact hE k c8 h.dl (by decide),by rw[k8];exact hE k c8 h.stamps (by decide),h.apart⟩,k.mono λi _ I=>.inl I⟩
theorem atQ(s:Int):(mZ pd q m).set 6 (.int .i64 s)=mZ pd q {m with seq:=s}:=rfl
theorem afz(u:Nat):(mZ pd q m).set 7 (.int .i64 (u:Int))=mZ pd q {m with used:=u}:=rfl
theorem atS(b:Bool):(mZ pd q m).set 9 (.bool b)=mZ pd q {m with mm:=b}:=rfl
theorem atO(c:Int):(mZ pd q m).set 10 (.int .i64 c)=mZ pd q {m with clock:=c}:=rfl
theorem atP(r:Nat):(mZ pd q m).set 4 (.pointer (some ⟨r,0,none⟩))=mZ pd {q with cf:=r} m:=rfl
theorem fI.put(h:fI w pp pd q dm dH dq m xs aA)(j:Nat)(ψ:j<13){v:Value}(az:v.oneCell'=true){N:al}(K:∀w',Kp w w' (λi=>i=pp)->μ w' 0 sy 13 (some ⟨pp,0,none⟩) 1 1 ((mZ pd q m).set j v)->N w'):
  (w.cell? (⟨pp,j,none⟩:Addr)).isSome=true/\w.frozen? (⟨pp,j,none⟩:Addr)=false/\∀υ,υ=w.setCell (⟨pp,j,none⟩:Addr) v->N υ:=
 h.cell.dv (j:=j) (by omega) az λυ k o=>K υ k o
theorem fI.avD(h:fI w pp pd q dm dH dq m xs aA){wI:bZ}{r:Nat}(φ:kM w 0 r wI)(k:Kp w w' λi=>i=pp)(o:μ w' 0 sy 13 (some ⟨pp,0,none⟩) 1 1 (mZ pd {q with cf:=r} m)):fI w' pp pd {q with cf:=r} dm dH dq {m with R:=wI} xs aA/\Kp w w' (km pp q dm dH dq):=by have c8:∀i,i=pp->h6 w CJ i:=λi I=>I▸⟨_,by simp,(h.cell.typed rfl).1⟩;exact⟨⟨o,wY k c8 h.gate (by decide) (by decide),wU k c8 h.dev (by decide),xE k c8 φ (by decide) (by decide),Ax k c8 h.st (by decide),hE k c8 h.dl (by decide),hE k c8 h.stamps (by decide),h.apart⟩,k.mono λi _ I=>.inl I⟩
theorem fI.avE(h:fI w pp pd q dm dH dq m xs aA){j:Nat}(ψ:j<m.stamps.length)(c:Int){N:al}(K:∀w',fI w' pp pd q dm dH dq {m with stamps:=m.stamps.set j c} xs aA->Kp w w' (km pp q dm dH dq)->N w'):
  (w.cell? (⟨q.kW,j,none⟩:Addr)).isSome=true/\w.frozen? (⟨q.kW,j,none⟩:Addr)=false/\∀υ,υ=w.setCell (⟨q.kW,j,none⟩:Addr) (.int .i64 c)->N υ:=by
 refine h.stamps.dv (j:=j) (by omega) rfl λυ k o=>?_;have c8:∀i,i=q.kW->h6 w c0 i:=λi I=>I▸⟨_,by simp,(h.stamps.typed rfl).1⟩;have e:(bA.cW m.stamps).set j (.int .i64 c)=bA.cW (m.stamps.set j c):=by unfold bA.cW;rw[rK]
 have π:mZ pd q {m with stamps:=m.stamps.set j c}=mZ pd q m:=by unfold mZ;dsimp only;rw[hQ]
 refine K υ ⟨by rw[π];exact hE k c8 h.cell (by decide),wY k c8 h.gate (by decide) (by decide),wU k c8 h.dev (by decide),xE k c8 h.mf (by decide) (by decide),h.st.aO k λi I bM=>h.apart (bM▸I),hE k c8 h.dl (by decide),?_,h.apart⟩ (k.mono λi _ I=>.inr (.inr (.inr (.inr (.inr (.inr I))))));show μ υ 0 cz 1 (some ⟨q.kW,0,none⟩) (m.stamps.set j c).length q.sc (bA.cW (m.stamps.set j c));rw[hQ,<-e];exact o
end step
theorem asw(w:World):B6.C 0 w (ω λv w'=>v=.tuple #[]/\w'=w):=by apply B6.ok;unfold B6.main;rw[cond_neg (by rfl)];exact ω.mk ⟨rfl,rfl⟩
def zI(e:Int):List PanicEntry:=[{v:=(Value.iface YN (Value.agg #[(Value.int .i64 e)])),recovered:=false}]
theorem j1{e:Int}{w:World}{N:Value->al}{X:List PanicEntry->al}(aF:e=0->N (.tuple #[]) w)(h1:e≠0->X (zI e) w):κ prog 52 #[.int .i64 e] w N X:=by
 show Calls prog _ _ w _;by_cases he:e=0
 ·subst he;exact(asw w).mono λiK w'⟨v,az,ι,aJ⟩=>by subst az ι aJ;exact aF rfl
 ·apply B6.ok;unfold B6.main;rw[cond_pos (by simpa using he)];exact h1 he
theorem SZ{s k:Int}(ea:6<=s/\s<=24/\2<=k/\k<=16){x:dB}(J:(x.1:Int)<s/\(x.2:Int)<k)(w:World):
  An.C s k (eX (some x)) (e5 (some x)) w (ω λv w'=>v=.tuple #[.int .i64 (om k x),.int .i64 0]/\η w w'):=by
 have dJ:kH (some x):=⟨by omega,by omega⟩;have c8:=(QD ea x).2 J;rw[Mv]at c8;simp only[lf,qI]at c8;apply An.ok;unfold An.main;rintro δ ε rfl rfl;have o:=μ.new (w:=w) (two s k) b2;have yw:=η.alloc w (.cells (two s k).toArray b2);have aP:w.alloc (.cells #[.int .i64 s,.int .i64 k] b2)=w.alloc (.cells (two s k).toArray b2):=rfl;rw[aP];generalize w.alloc (.cells (two s k).toArray b2)=ε at o yw⊢;refine⟨(two s k).toArray,rfl,o.cells,?_⟩;refine κ.use (KB s k _) ?_;rintro _ υ ⟨rfl,ι⟩;rw[vQ.2 ea]
 try dsimp only[bL]
 rw[cond_neg (by decide)];refine⟨k,(o.ex ι).at (by rfl),?_⟩;refine κ.use (Tb (some x) dJ k (by omega) υ) ?_;rintro _ _ ⟨rfl,rfl⟩;rw[Lq,aN J.2];have e:(bB.v64 [(x.1:Int)*k+x.2,0]).toArray=#[.int .i64 ((x.1:Int)*k+x.2),.int .i64 0]:=rfl;rw[e]
 try dsimp only[ca,cT,cU,bo,bL]
 rw[cond_neg (by decide)];have hp:=M7 ea;have hm:=Lp (k:=k) (a:=x.1) dJ.1 (by omega);refine⟨s,(o.ex ι).at (by rfl),k,(o.ex ι).at (by rfl),?_⟩;rw[bS (x:=s*k) (by omega) (by omega)];rw[jl (by omega),bS (by omega) (by omega)];exact ω.mk ⟨rfl,yw.trans ι⟩
section
variable{w:World}{pp pd:Nat}{m:aQ}{xs:List (b9.cZ×Int)}{aA:Int}{D:bl}
theorem fI.at{q:wH}{dm dH dq:bl}(h:fI w pp pd q dm dH dq m xs aA){j:Nat}{v:Value}(ψ:(mZ pd q m)[j]?=some v):w.cell? (⟨pp,j,none⟩:Addr)=some v:=h.cell.at ψ
theorem fI.xu{q:wH}{dm dH dq:bl}(h:fI w pp pd q dm dH dq m xs aA):aB w (⟨pp,2,none⟩:Addr) (two m.s m.k).toArray.toList:=by
 have:=bd.take (w:=w) (a:=some _) (aB.drop (w:=w) (a:=(⟨pp,0,none⟩:Addr)) h.cell.cells 2) 2
 rw[dG]at this;exact this
theorem OY(h:hY w pp pd m xs aA D)(ok:∀e∈m.R,mG e):GR.C (some ⟨pp,0,none⟩) w (ω λv w'=>∃ps,v=.agg (bT m.R ps).toArray/\fV w' m.R ps/\η w w'):=by
 obtain⟨q,dm,dH,dq,h,cn⟩:=h;apply GR.ok;unfold GR.main;refine Cm (η.refl w) λδ ε eL aP θ qz σ=>?_;rw[cond_neg (by rfl)]
 try dsimp only[bo]
 simp only[dG];refine⟨_,(h.ex θ).at (j:=4) rfl,?_⟩;refine κ.use (ali (h.ex θ).mf ok) ?_;rintro _ χ ⟨ps,rfl,cb,ad⟩
 try dsimp only[hA]
 refine κ.use (Zn cb.at) ?_;rintro _ an ⟨uG,rfl,pj,ay⟩
 try dsimp only[hA,h7]
 have σ:=(σ.ex ad).ex ay;refine aT (by rw[fP];exact pj.at.eA) (σ.put (cs:=bT m.R uG) pj.at.eA pj.at.one λa8 hW eN=>⟨_,by rw[fP];exact pj.at.eA,eN.cells,ω.mk ⟨uG,rfl,pj.cV hW b3 (λi I=>I▸(σ.typed rfl).1) (by decide),((θ.trans ad).trans ay).then hW λi I=>by omega⟩⟩)
theorem an6(a b c d:Int)(r i:Nat):Instr.fill (λi=>some (i*5,5)) (madeCells #[(Value.int .i64 0),(Value.int .i64 0),(Value.int .i64 0),(Value.int .i64 0),(Value.complex .f64 0 0)] (1*5)) [(0,(Value.agg #[.int .i64 a,.int .i64 b,.int .i64 c,.int .i64 d,.complex .f64 r i]))]=some #[.int .i64 a,.int .i64 b,.int .i64 c,.int .i64 d,.complex .f64 r i]:=
 UO 5 _ _ (by simp[madeCells]) rfl
theorem MM(h:hY w pp pd m xs aA D)(d:gd)(ar:m.dl.length<=100000000):GU.C (some ⟨pp,0,none⟩) d.k d.v d.o d.b (dI.cH d.x) (dI.cH d.y) w (ω λv w'=>v=.tuple #[]/\∃bk,er w D w' pp pd (p9 m d) xs aA bk):=by
 obtain⟨q,dm,dH,dq,h,cn⟩:=h;apply GU.ok;unfold GU.main;rintro δ ε eL rfl;have σ:=μ.new (w:=w) d.cells fS;rw[<-eL]at σ;have θ:=η.alloc w (.cells d.cells.toArray fS);have aP:w.alloc (.cells #[.int .i64 d.k,.int .i64 d.v,.int .i64 d.o,.int .i64 d.b,.complex .f64 (dI.cH d.x) (dI.cH d.y)] fS)=w.alloc (.cells d.cells.toArray fS):=rfl;rw[aP];generalize w.alloc (.cells d.cells.toArray fS)=ε at σ θ⊢
 try dsimp only[bo]
 have eb:=θ.trans (η.drew ε);have σ:=σ.ex (η.drew ε);simp only[dG];refine⟨_,_,_,(h.ex eb).at (j:=8) rfl,d.cells.toArray,rfl,σ.cells,?_⟩;have Ux:=an6 d.k d.v d.o d.b (dI.cH d.x) (dI.cH d.y);refine hh Ux ?_;rintro ζ υ eG rfl;have ρ:=η.alloc ε.drew (.cells d.cells.toArray fS);have c2:bd (ε.drew.alloc (.cells d.cells.toArray fS)) (some ⟨ε.drew.heap.size,0,none⟩) d.cells:=bd.alloc _ fS;rw[<-eG]at c2;have bM:ε.drew.alloc (.cells #[.int .i64 d.k,.int .i64 d.v,.int .i64 d.o,.int .i64 d.b,.complex .f64 (dI.cH d.x) (dI.cH d.y)] fS)=ε.drew.alloc (.cells d.cells.toArray fS):=rfl;rw[bM];generalize ε.drew.alloc (.cells d.cells.toArray fS)=υ at ρ c2⊢;have ft:=eb.trans ρ;have ι:=h.ex ft;refine⟨ι.at (j:=8) rfl,?_⟩;refine CM ι.dl (eR _) d.cells c2 rfl cells_one rfl (by omega) (by omega) (λbj bP χ bh b4 ph=>?_);have c8:∀i,(∃x,q.Bj=some x/\x.block=i)->h6 υ alu i:=λi⟨x,J,I⟩=>⟨_,by simp,I▸(ι.dl.typed J).1⟩;have aAa:=c8;have kq:=hE b4 c8 ι.cell (by decide);refine kq.dv (j:=8) (v:=.slice bj (m.dl.length+1) bP) (by omega) rfl λao cI cJ=>?_;have UD:h6 χ CJ pp:=⟨_,by simp,(kq.typed rfl).1⟩;have I2:∀i,i=pp->h6 χ CJ i:=λi I=>I▸UD;have hlen:(m.dl++[d]).length=m.dl.length+1:=by simp
 have aqr:(mZ pd q m).set 8 (.slice bj (m.dl.length+1) bP)=mZ pd {q with Bj:=bj,dc:=bP} {m with dl:=m.dl++[d]}:=by rw[<-hlen];rfl
 rw[aqr]at cJ;refine cJ.dv (j:=9) (v:=.bool true) (by omega) rfl λan dT cB=>?_;rw[atS]at cB;have BN:=cI.gL dT;have as7:μ χ 0 fS 5 bj (m.dl++[d]).length bP (kc (m.dl++[d])):=by
  rw[hlen,Lb]
  have:kc [d]=d.cells:=by simp[kc]
  rw[this];exact bh
 have bm:fI an pp pd {q with Bj:=bj,dc:=bP} dm dH dq (p9 m d) xs aA:=
  ⟨cB,wY BN I2 (wY b4 c8 ι.gate (by decide) (by decide)) (by decide) (by decide),wU BN I2 (wU b4 c8 ι.dev (by decide)) (by decide),xE BN I2 (xE b4 c8 ι.mf (by decide) (by decide)) (by decide) (by decide),Ax BN I2 (Ax b4 c8 ι.st (by decide)) (by decide),hE BN I2 as7 (by decide),hE BN I2 (hE b4 c8 ι.stamps (by decide)) (by decide),ι.apart⟩
 refine ω.mk ⟨rfl,_,fI.iW cn bm (Kp.trans ((ft.aO _).gL (b4.mono λi _ I=>.inr (.inr (.inr (.inr (.inr (.inl I))))))) BN (λ_ _ h=>h) (λi _ I=>.inl I)) λi I=>?_⟩;rcases I with I|I|I|I|I|⟨x,J,I⟩|I
 ·exact .inl (.inl I)
 ·exact .inl (.inr (.inl I))
 ·exact .inl (.inr (.inr (.inl I)))
 ·exact .inl (.inr (.inr (.inr (.inl I))))
 ·exact .inl (.inr (.inr (.inr (.inr (.inl I)))))
 ·rcases ph with e|e
  ·subst e;exact .inl (.inr (.inr (.inr (.inr (.inr (.inl ⟨x,J,I⟩))))))
  ·have:=e x J
   have:=ft.size
   exact .inr (by omega)
 ·exact .inl (.inr (.inr (.inr (.inr (.inr (.inr I))))))
end
section
variable{w:World}{pp pd:Nat}{m:aQ}{xs:List (b9.cZ×Int)}{aA:Int}{D:bl}
theorem ab1{a:Int}{n:Nat}(h:(n:Int)=a):bA.cH a=kx n:=by unfold bA.cH kx;rw[h]
theorem DL(h:hY w pp pd m xs aA D)(τ:o1 m)(ah:tP m){U:List dB}(jF:CI m.st U){k:Int}(hk:0<=k)(φ:bA.room m.st k=true)(cb:m.stamps.length=m.s.toNat)(ak:m.d.loose.length<=1000000){B:Nat}{p:γ}{c:Nat}{bs:aq}(o:μ w B dt 1 p 64 c (a7 bs))(ab:ba.lx bs):
  GV.C (some ⟨pp,0,none⟩) p 64 c k w (ω λv w'=>v=et (some (gz m bs k).2)/\∃bk,er w D w' pp pd (gz m bs k).1 xs aA bk):=by
 have dV:=Rf τ jF hk φ bs;have bH:=τ.gY;obtain⟨q,dm,dH,dq,h,cn⟩:=h;apply GV.ok;unfold GV.main
 try dsimp only[bo]
 simp only[dG];refine⟨_,h.at (j:=5) rfl,?_⟩;refine κ.use (bA.akL h.st τ.fz (eR _) k) ?_;rintro _ ε ⟨rfl,aR⟩;have Qi:(bA.next m.st k).2.1=0:=by unfold bA.next;rw[aL (by omega),aN φ]
 obtain⟨t1,t2,t3,t4,t5⟩:=bA.Sw τ.fz hk φ;have hp:(gz m bs k).2=((bA.next m.st k).2.2.1.toNat,(bA.next m.st k).2.2.2.toNat):=rfl;have zZ:(gz m bs k).1={m with st:=(bA.next m.st k).1,d:=ba.dv m.d (om m.k (gz m bs k).2) bs,stamps:=m.stamps.set (gz m bs k).2.1 m.clock}:=rfl;have apW:0<=(bA.next m.st k).2.2.1:=by unfold bA.next;rw[aL (by omega),aN φ];exact t2
 have Je:0<=(bA.next m.st k).2.2.2:=by unfold bA.next;rw[aL (by omega),aN φ];exact t1.used.1
 have cM:bA.cH (bA.next m.st k).2.2.1=eX (some (gz m bs k).2):=ab1 (by rw[hp];exact Np apW);have fC:bA.cH (bA.next m.st k).2.2.2=e5 (some (gz m bs k).2):=ab1 (by rw[hp];exact Np Je);rw[Qi,cM,fC];rw[zZ];have Wu:=dV.lt;generalize(gz m bs k).2=x at Wu⊢
 try dsimp only[ca,cT,cU,bo,bL,sV]
 obtain⟨ayO,h1,aV,s1⟩:=h.agN aR;have aub:=fI.iW cn h1 aV s1;have as8:∀{e:TypeId}{sz n aW B':Nat}{b5:γ}{vs:aY},μ w B' e sz b5 n aW vs->e∉ow->μ ε B' e sz b5 n aW vs:=λo ar=>hE aV (λi I=>(h.im I).1) o ar;have σ:=as8 o (by decide);refine j1 (λ_=>?_) (λh=>absurd rfl h)
 try dsimp only[ca]
 refine⟨(two m.s m.k).toArray,rfl,h1.xu,?_⟩;refine κ.use (SZ bH Wu ε) ?_;rintro _ an ⟨rfl,ay⟩
 try dsimp only[ca,cT,cU,bo,bL]
 have dx:=h1.ex ay;refine⟨_,dx.at (j:=1) rfl,?_⟩;have azv:tP {m with st:=(bA.next m.st k).1}:=⟨ah.dev,ah.off,ah.after,ah.nC⟩;have ug:hG an dH an 0 pd m.d dH 1000000:=hG.start dx.dev ah.dev ah.off ah.after (Gt τ ah) ak (eR _);have rr:=Hr bH Wu;have ym:=ah.nC;refine ug.put (by omega) (i:=om m.k x) ⟨by omega,by omega⟩ (ba.ou.DI dx.dev (σ.ex ay) (by decide) (by decide) (by decide)) ab λbV aj7 Wo fO=>?_
 try dsimp only[bL]
 obtain⟨ayM,dD,arG,RR⟩:=dx.R4 Wo.done;have aui:=(aub.ex ay).trans (fI.iW (λi=>og) dD arG RR);refine j1 (λ_=>?_) (λh=>absurd rfl h)
 try dsimp only[ca]
 have eb:=η.drew bV;have hD:=dD.ex eb;have JH:=aui.ex eb;generalize bV.drew=bW at hD JH⊢;refine⟨_,_,_,hD.at (j:=11) rfl,?_⟩;have o7:x.1<=24:=by omega
 refine hh (DF (n:=x.1) o7).2.2.2.1 (aT (by rw[Jh];omega) (aT (by rw[yx];omega) ?_));refine⟨_,hD.at (j:=10) rfl,aT (by omega) (aT (by dsimp only;omega) ?_)⟩;rw[ch,eS]
 try dsimp only[bo]
 rw[dG];refine hD.avE (j:=x.1) (by dsimp only;omega) _ λcm Bp arE=>?_;refine ω.mk ⟨rfl,_,JH.trans (fI.iW (λi=>og) Bp arE λi I=>.inl I)⟩
theorem JZ(h:hY w pp pd m xs aA D)(I:Inv m)(v b k s:Int)(p:γ)(n c:Nat){Z:Value->al}{X:List PanicEntry->al}
  (dZ:∀bs w' q aW,η w w'->μ w' 0 dt 1 q 64 aW (a7 bs)->(∃e,gB m.R v=some e/\0<=b/\b<e.2.1/\bs=(match(e.2.2[b.toNat]?).join with|none=>ba.gN|some x=>hS m.k m.d x))->Z (.slice q 64 aW) w')
  (fF:∀e w',η w w'->e≠0->((gB m.R v=none/\e=4)\/∃x,gB m.R v=some x/\(b<0\/x.2.1<=b)/\e=5)->X (zI e) w'):
  κ prog 78 #[.pointer (some ⟨pp,0,none⟩),.agg #[.int .i64 k,.int .i64 v,.int .i64 b,.int .i64 s,.slice p n c]] w Z X:=by
 obtain⟨f1,f2,f3⟩:=(mC I.gY).1 I.fit;obtain⟨q,dm,dH,dq,h,cn⟩:=h;show GW.C (some ⟨pp,0,none⟩) k v b s p n c w _;apply GW.ok;unfold GW.main;rintro δ ε eL rfl;have σ:=μ.new (w:=w) [.int .i64 k,.int .i64 v,.int .i64 b,.int .i64 s,.slice p n c] e7;rw[<-eL]at σ;have θ:=η.alloc w (.cells #[.int .i64 k,.int .i64 v,.int .i64 b,.int .i64 s,.slice p n c] e7);generalize w.alloc (.cells #[.int .i64 k,.int .i64 v,.int .i64 b,.int .i64 s,.slice p n c] e7)=ε at σ θ⊢
 try dsimp only[bo]
 have eb:=θ.trans (η.drew ε);have σ:=σ.ex (η.drew ε);generalize ε.drew=υ at eb σ⊢;simp only[dG];refine⟨_,(h.ex eb).at (j:=4) rfl,_,σ.at (j:=1) rfl,_,σ.at (j:=2) rfl,?_⟩;refine κ.use (akn (h.ex eb).mf f1 v b) ?_;rintro _ χ ⟨rfl,ad⟩;have ha:=eb.trans ad;unfold UZ;have oA:=@Bm m.R v;cases he:gB m.R v with
 |none=>
  try dsimp only[ca,cT,cU,n1,bo,bL,dX,sV]
  exact j1 (λh=>by cases h) λh=>fF 4 χ ha h (.inl ⟨he,rfl⟩)
 |some e=>
  dsimp only;by_cases τ:0<=b/\b<e.2.1
  ·rw[aN τ];obtain⟨v0,aAt,az,hk⟩:=oA he;have eU:=f1 e (fa az);have hlen:b.toNat<e.2.2.length:=by have:=eU.1;omega
   have n2:e.2.2.getD b.toNat none=e.2.2[b.toNat]:=by rw[List.getD_eq_getElem?_getD,List.getElem?_eq_getElem hlen];rfl
   have adf:(e.2.2[b.toNat]?).join=e.2.2[b.toNat]:=by rw[List.getElem?_eq_getElem hlen];rfl
   rw[n2];cases aH:e.2.2[b.toNat]with
   |none=>
    unfold IN
    try dsimp only[ca,cT,cU,n1,bo,bL,dX,sV]
    refine j1 (λ_=>?_) (λh=>absurd rfl h)
    try dsimp only[ca]
    rw[cond_pos (by rfl)];rintro ax aZ jm rfl;have em:madeCells #[Value.int .u8 0] (64*1)=(a7 ba.gN).toArray:=by
     have:=DD 1 64 (Value.int .u8 0) (by decide)
     exact this
    rw[em];have bY:=μ.alloc (w:=χ) (a7 ba.gN) dt 1 64 rfl;rw[jm];exact dZ _ _ _ _ (ha.trans (η.alloc χ _)) (bY.lower (eR _)) ⟨e,he,τ.1,τ.2,by rw[adf,aH]⟩
   |some x=>
    have Du:x∈used m.R:=xh.2 ⟨e,fa az,aH▸hP hlen⟩;have J:=f2 x Du;unfold IN et
    try dsimp only[ca,cT,cU,n1,bo,bL,dX,sV]
    refine j1 (λ_=>?_) (λh=>absurd rfl h)
    try dsimp only[ca]
    rw[cond_neg (by rfl)];have aJ:=h.ex ha;refine⟨(two m.s m.k).toArray,rfl,aJ.xu,?_⟩;refine κ.use (SZ I.gY J χ) ?_;rintro _ a8 ⟨rfl,aU⟩
    try dsimp only[ca,cT,cU,bo,bL]
    have hq:=aJ.ex aU;refine⟨_,hq.at (j:=1) rfl,?_⟩;have rr:=Hr I.gY J;have ym:=I.nC;obtain⟨VN,ac6⟩:=Yi I.base I.x8 J;refine κ.use (ba.zn hq.dev I.dev (om m.k x)) ?_;rintro _ bW ⟨ct,φ⟩;have rp:ba.uk m.d (om m.k x)=0:=by unfold ba.uk;rw[aL (by rw[I.off];simp),aL (by omega)]
    obtain⟨_,bj,bP,jO,Dr,rfl,bh⟩:=φ.resolve_left λh=>h.1 rp
    try dsimp only[ca,cT,cU,bo,bL,ee]
    refine j1 (λ_=>?_) (λh=>absurd rfl h)
    try dsimp only[ca]
    rw[VN]at Dr;cases Dr;exact dZ _ _ _ _ ((ha.trans aU).trans ct) (bh.lower (eR _)) ⟨e,he,τ.1,τ.2,by rw[adf,aH]⟩
  ·rw[aL τ]
   try dsimp only[ca,cT,cU,n1,bo,bL,dX,sV]
   exact j1 (λh=>by cases h) λh=>fF 5 χ ha h (.inr ⟨e,he,by omega,rfl⟩)
end
theorem Yu{w w':World}{S:bl}{T:List Nat}(k:Kp w w' S)(eU:∀i,S i->h6 w T i){R:bZ}{ps:aY}(h:fV w R ps)(ar:eT∉T):fV w' R ps:=
 h.aO k λi aS _ I=>(eU i I).off aS ar
theorem acd(x:Int):∀(l:aq)(st:bA.hU),Bo st (l++[x])=(bA.o6 (Bo st l) x).1
 |[],st=>rfl
 |y::l,st=>by show Bo (bA.o6 st y).1 (l++[x])=_;rw[acd x l];rfl
section
variable{w:World}{pp pd:Nat}{m:aQ}{xs:List (b9.cZ×Int)}{aA:Int}{D:bl}
theorem er.at_{w0:World}{eC:bl}(h:er w0 eC w pp pd m xs aA D):∃q dm dH dq,fI w pp pd q dm dH dq m xs aA/\∀i,D i↔km pp q dm dH dq i:=h.is
theorem er.NR{ε:World}{fx:bl}{m1:aQ}{xO:List (b9.cZ×Int)}{xI:Int}(h:er w D ε pp pd m1 xO xI fx)(aF:hY w pp pd m xs aA D){R:bZ}{ps:aY}(s:fV w R ps):fV ε R ps:=
 Yu h.aO (λi I=>(aF.im I).1) s (by decide)
theorem UR{q:wH}{dm dH dq:bl}(h:fI w pp pd q dm dH dq m xs aA)(τ:o1 m)(ah:tP m){N:Value->al}{X:List PanicEntry->al}{D:bl}(cn:∀i,D i↔km pp q dm dH dq i)
  (K:∀w' q1,fI w' pp pd q dm q1 dq {m with d:=lC m.d} xs aA->er w D w' pp pd {m with d:=lC m.d} xs aA (km pp q dm q1 dq)->N (.int .i64 0) w'):
  κ prog 57 #[.pointer (some ⟨pd,0,none⟩)] w N X:=by
 have ug:hG w dH w 0 pd m.d dH m.d.loose.length:=hG.start h.dev ah.dev ah.off ah.after (Gt τ ah) (dO _) (eR _);refine ug.flush λw' bk az k'=>?_;obtain⟨q1,e2,k,s⟩:=h.R4 az.done;exact K w' q1 e2 (fI.iW cn e2 k s)
theorem abx(ah:tP m):tP {m with d:=lC m.d}:=⟨ab6 ah.dev,ah.off,ah.after,ah.nC⟩
theorem ams{w0:World}{eC:bl}{m1:aQ}(bH:bA.Good m1.st){B:Nat}{p:γ}{n c:Nat}{L:aq}(gy:L.length=n)(ar:n<=1000){ε:World}{fx:bl}(h:er w0 eC ε pp pd m1 xs aA fx)(o:μ ε B cz 1 p n c (bA.cW L))(hp:∀x,p=some x->¬fx x.block){Z:Value->al}
  (dZ:∀w' bk,er w0 eC w' pp pd {m1 with st:=Bo m1.st L} xs aA bk->Z (.tuple #[]) w'):
  px.bb (some ⟨pp,0,none⟩) p n c (n:Int) 0 ε (ω Z):=by
 unfold px.bb;refine⟨λt0 Sn Sm YE t76 t77 W=>some ⟨pp,0,none⟩=t0/\p=Sn/\n=Sm/\(n:Int)=t76/\0<=t77/\t77<=n/\μ W B cz 1 p n c (bA.cW L)/\∃bk,er w0 eC W pp pd {m1 with st:=Bo m1.st (L.take t77.toNat)} xs aA bk/\∀x,p=some x->¬bk x.block,
  λ_ _ _ _ _ t77 _=>(n-t77).toNat,⟨rfl,rfl,rfl,rfl,by omega,by omega,o,fx,h,hp⟩,?_⟩
 rintro _ _ _ YE _ t77 W ⟨rfl,rfl,rfl,rfl,aF,h1,o,bk,h,hp⟩;unfold px.δ;obtain⟨j,rfl⟩:=eF aF;rw[ch]at h;refine bt (λψ=>?_) (λψ=>?_)
 ·have ψ:=b6 ψ;have ff:j<L.length:=by omega
  refine aT (by omega) (aT (by omega) ?_);obtain⟨a,rfl,r⟩:=o.cells.many (bA.vO (List.getElem?_eq_getElem ff))
  try dsimp only[bo]
  rw[ch,eS];refine⟨_,r,?_⟩;obtain⟨q,dm,dH,dq,aH,cn⟩:=h.at_
  try simp only[dG]
  refine⟨_,aH.at (j:=5) rfl,?_⟩;have apT:=(US (L.take j) bH).fz;refine κ.use (bA.ZB aH.st apT (eR _) L[j]) ?_;rintro _ eP ⟨rfl,aR⟩
  try dsimp only[bL]
  obtain⟨ve,ι,bK,s2⟩:=aH.agN aR;have vZ:=fI.iW cn ι bK s2;rw[bS (x:=(j:Int)+1) (by omega) (by omega)];have aP:((j:Int)+1).toNat=j+1:=by omega
  have sb:L.take (j+1)=L.take j++[L[j]]:=mb ff;refine⟨⟨by trivial,by trivial,by trivial,by trivial,by omega,by omega,o.aO vZ.aO λx J=>hp x J,_,?_,λx J=>vZ.asM (hp x J) (o.ge J).2⟩,by((try dsimp only);omega)⟩;rw[aP,sb,acd];exact h.trans vZ
 ·have ψ:=dn ψ;obtain rfl:j=n:=by omega
  rw[hR (by omega)]at h;exact ω.mk (dZ W bk h)
theorem Pj(h:hY w pp pd m xs aA D)(hm:xV m)(aH:m.seq+1<=1073741824)(ak:m.d.loose.length<=1000000):px.C (some ⟨pp,0,none⟩) w (ω λv w'=>v=.tuple #[]/\∃bk,er w D w' pp pd (r9 m) xs aA bk):=by
 have Dq:=hm.seq;have L0:=hm.base.gY;apply px.ok;unfold px.main;obtain⟨q,dm,dH,dq,h,cn⟩:=h
 try dsimp only[bo]
 try simp only[dG]
 refine⟨m.seq,h.at (j:=6) rfl,?_⟩;rw[cond_neg (by simp;omega)];unfold px.aV;refine κ.use (OY ⟨q,dm,dH,dq,h,cn⟩ hm.ok) ?_;rintro _ χ ⟨ps,rfl,cb,ad⟩
 try dsimp only[bo,hA,h7]
 refine Cm ad λδ an eL iJ ay nW cB=>?_;have cb:=cb.ex ay;refine aT (by rw[fP];exact cb.at.eA) (cB.put (cs:=bT m.R ps) cb.at.eA cb.at.one λaZ eD bY=>?_);have cb:=cb.cV eD b3 (λi I=>I▸(cB.typed rfl).1) (by decide);have k4:η w aZ:=nW.then eD λi I=>by omega
 clear cB ay ad;have h8:=h.ex k4
 try simp only[dG]
 refine⟨_,h8.at (j:=1) rfl,?_⟩;refine UR h8 hm.base hm.dev cn λa8 CC hq Aq=>?_
 try dsimp only[bL]
 have LC:∀i,km pp q dm CC dq i↔km pp q dm CC dq i:=λi=>og;have ad1:hY aZ pp pd m xs aA D:=⟨q,dm,dH,dq,h8,cn⟩;have eN:=Aq.dS ad1 bY (by decide);have R3:=Aq.NR ad1 cb;refine j1 (λ_=>?_) (λh=>absurd rfl h)
 try dsimp only[ca]
 have eb:=η.drew a8;have hD:=hq.ex eb;have iV:=eN.ex eb;have NN:=R3.ex eb;have JH:=((er.start ⟨q,dm,dH,dq,h,cn⟩).ex k4).trans (Aq.ex eb);clear eN R3 Aq bY cb;generalize a8.drew=bW at hD iV NN JH⊢
 try simp only[dG]
 refine⟨_,hD.at (j:=1) rfl,(bT m.R ps).toArray,by rw[fP];exact NN.at.eA,iV.cells,(two m.s m.k).toArray,rfl,hD.xu,_,hD.at (j:=6) rfl,?_⟩;rw[bS (x:=m.seq+1) (by omega) (by omega)];have Dg:=abx hm.dev;have ug:hG bW CC bW 0 pd (lC m.d) CC 0:=hG.start hD.dev Dg.dev Dg.off Dg.after (Gt (m:={m with d:=lC m.d}) ⟨hm.base.gY,hm.base.fz,hm.base.hi,hm.base.blocks⟩ Dg) (dO _) (eR _);refine κ.use (ZV ug (by omega) NN.at ⟨by omega,aH⟩ hm.fit) ?_;rintro _ cd ⟨rfl,Zr,arb⟩
 try dsimp only[bL]
 obtain⟨S8,kD,yz,NG⟩:=hD.R4 arb.done;have Ri:er bW (km pp q dm CC dq) cd pp pd _ xs aA _:=fI.iW (λi=>og) kD yz NG;have WC:hY bW pp pd _ xs aA (km pp q dm CC dq):=⟨q,dm,CC,dq,hD,λi=>og⟩;have tk:=Ri.dS WC iV (by decide);have agF:=Ri.NR WC NN;have JF:=JH.trans Ri;clear iV NN JH Ri WC;refine j1 (λ_=>?_) (λh=>absurd rfl h)
 try dsimp only[ca]
 try simp only[dG]
 refine⟨_,kD.at (j:=6) rfl,?_⟩;rw[bS (x:=_+1) (by dsimp only;omega) (by dsimp only;omega)];refine kD.put 6 (by omega) rfl λdp oH uz=>?_;rw[atQ]at uz;refine uz.dv (j:=7) (v:=.int .i64 0) (by omega) rfl λed yA vT=>?_;have sa:=afz (pd:=pd) (q:=q) (m:={{m with d:=wb (lC m.d) m.s m.k (m.seq+1) m.R}with seq:=m.seq+1}) 0;have vT:=(show _=mZ pd q _ from sa)▸vT;refine vT.dv (j:=8) (v:=.slice none 0 0) (by omega) rfl λdP yB xl=>?_;refine xl.dv (j:=9) (v:=.bool false) (by omega) rfl λeO Ad oJ=>?_;have CF:=((oH.gL yA).gL yB).gL Ad;have c8:∀i,i=pp->h6 cd CJ i:=λi I=>I▸⟨_,by simp,(kD.cell.typed rfl).1⟩;have IQ:fI eO pp pd {q with Bj:=none,dc:=0} dm S8 dq {m with d:=wb (lC m.d) m.s m.k (m.seq+1) m.R,seq:=m.seq+1,used:=0,dl:=[],mm:=false} xs aA:=
  ⟨oJ,wY CF c8 kD.gate (by decide) (by decide),wU CF c8 kD.dev (by decide),xE CF c8 kD.mf (by decide) (by decide),Ax CF c8 kD.st (by decide),μ.nil _ _ _ _,hE CF c8 kD.stamps (by decide),kD.apart⟩
 have afL:er cd (km pp q dm S8 dq) eO pp pd _ xs aA _:=fI.iW (λi=>og) IQ (CF.mono λi _ I=>.inl I) λi I=>by
  rcases I with I|I|I|I|I|⟨x,J,I⟩|I
  ·exact .inl (.inl I)
  ·exact .inl (.inr (.inl I))
  ·exact .inl (.inr (.inr (.inl I)))
  ·exact .inl (.inr (.inr (.inr (.inl I))))
  ·exact .inl (.inr (.inr (.inr (.inr (.inl I)))))
  ·cases J
  ·exact .inl (.inr (.inr (.inr (.inr (.inr (.inr I))))))
 have aeL:=hE CF c8 tk (by decide);have agG:=Yu CF c8 agF (by decide);have afM:=JF.trans afL;clear tk agF JF afL uz vT xl oJ oH yA yB Ad;refine⟨_,IQ.at (j:=5) rfl,?_⟩;refine κ.use (bA.ZC IQ.st hm.base.fz) ?_;rintro _ eE ⟨q0,eo,h0,rfl,_⟩
 try dsimp only[ca,cT,cU,bo,bL,ee]
 have eb:=q0.trans (η.drew eE);have rC:=aeL.ex eb;have Ys:=agG.ex eb;have IS:=IQ.ex eb;have afN:=afM.ex eb;clear aeL agG afM;generalize eE.drew=ey at rC Ys IS afN eb⊢
 try simp only[dG]
 refine⟨(bT m.R ps).toArray,by rw[fP];exact Ys.at.eA,rC.cells,(two m.s m.k).toArray,rfl,IS.xu,?_⟩;rintro ζ dM eG rfl;have af:=μ.new (w:=ey) [.int .i64 m.st.head] cz;rw[<-eG]at af;have tM:=η.alloc ey (.cells #[.int .i64 m.st.head] cz);generalize ey.alloc (.cells #[.int .i64 m.st.head] cz)=dM at af tM⊢;have j2:=rC.ex tM;have agH:=Ys.ex tM;have lW:=IS.ex tM;have aud:=afN.ex tM;refine aT rfl ⟨lW.xu,aT (by rw[fP];exact agH.at.eA) ⟨j2.cells,?_⟩⟩;have BC:(gK (used m.R)).length<=4096:=by
  have h1:=((mC L0).1 hm.fit).2.2
  have:(m.s-4)*m.k<=20*16:=qJ (by omega) (by omega) (by omega) (by omega)
  have ι:(gK (used m.R)).length=jn m.R:=rfl;omega
 refine κ.use (Tc (but:=[m.st.head]) agH.at hm.fit.1 BC af.cells rfl (by omega)) ?_;rintro _ eg ⟨gp,jk,rfl,oU,BV⟩
 try dsimp only[ca,cT,cU,bo,bL,ee]
 have JG:=aud.ex oU;have oE:∀x,gp=some x->¬km pp {q with Bj:=none,dc:=0} dm S8 dq x.block:=λx J bm=>by
  have:=(BV.ge J).1
  have:=(lW.im bm).2
  omega
 have w8:=UT m.s.toNat (lays (used m.R)) [m.st.head];refine ams (m1:={m with d:=wb (lC m.d) m.s m.k (m.seq+1) m.R,seq:=m.seq+1,used:=0,dl:=[],mm:=false}) hm.base.fz rfl (by omega) JG BV oE λw' bk hp=>⟨rfl,bk,hp⟩
end
section
variable{w:World}{pp pd:Nat}{m:aQ}{xs:List (b9.cZ×Int)}{aA:Int}{D:bl}
theorem aa1{m':aQ}(τ:o1 m)(h1:m'.s=m.s)(ι:m'.k=m.k)(aJ:m'.st=m.st):o1 m':=⟨by rw[h1,ι];exact τ.gY,by rw[aJ];exact τ.fz,by rw[aJ,h1];exact τ.hi,by rw[aJ,ι];exact τ.blocks⟩
theorem avM(h:hY w pp pd m xs aA D)(I:Inv m)(aH:m.seq+1<=1073741824)(ak:m.d.loose.length<=900000)(ym:m.dl.length<=900000):GY.C (some ⟨pp,0,none⟩) w (ω λv w'=>v=.tuple #[]/\∃bk,er w D w' pp pd (y6 m) xs aA bk):=by
 have Dq:=I.seq;have hu:=I.ot;apply GY.ok;unfold GY.main;obtain⟨q,dm,dH,dq,h,cn⟩:=h;have yo:hY w pp pd m xs aA D:=⟨q,dm,dH,dq,h,cn⟩
 try dsimp only[bo]
 simp only[dG];refine⟨m.mm,h.at (j:=9) rfl,?_⟩;unfold y6;cases aS:m.mm with
 |false=>
  rw[cond_pos (by rfl),aN rfl];exact ω.mk ⟨rfl,D,er.start yo⟩
 |true=>
  rw[cond_neg (by rfl),aL (by decide)];refine⟨_,_,_,h.at (j:=8) rfl,_,h.at (j:=7) rfl,λaV=>?_⟩;rw[bS (x:=16-(m.used:Int)) (by omega) (by omega),bS (by omega) (by omega)];refine bt (λπ=>?_) (λπ=>?_)
  ·have π:=b6 π;rw[aN (by omega)];refine κ.use (Pj (yo.ex (η.drewN w aV)) I.xi aH (by omega)) ?_;rintro _ ε ⟨rfl,bk,hp⟩
   try dsimp only[ca]
   exact ω.mk ⟨rfl,bk,((er.start yo).ex (η.drewN w aV)).trans hp⟩
  ·have π:=dn π;rw[aL (by omega)];have Y9:=η.drewN w aV;have afK:=(er.start yo).ex Y9;have h:=h.ex Y9;generalize w.drewN aV=w0 at Y9 afK h⊢;refine⟨_,h.at (j:=1) rfl,?_⟩;refine UR h I.base I.x8 cn λχ KD aJ tr=>?_
   try dsimp only[bL]
   refine j1 (λ_=>?_) (λh=>absurd rfl h)
   try dsimp only[ca]
   have eb:=η.drew χ;have dx:=aJ.ex eb;have afO:=afK.trans (tr.ex eb);generalize χ.drew=an at dx afO⊢
   try simp only[dG]
   refine⟨_,dx.at (j:=1) rfl,_,dx.at (j:=6) rfl,_,dx.at (j:=7) rfl,_,_,_,dx.at (j:=8) rfl,?_⟩;have Dg:=abx I.x8;have azp:o1 {m with d:=lC m.d}:=aa1 I.base rfl rfl rfl;have ug:hG an KD an 0 pd (lC m.d) KD 0:=hG.start dx.dev Dg.dev Dg.off Dg.after (Gt I.base I.x8) (dO _) (eR _);refine κ.use (ak1 ug (by omega) (seq:=m.seq) ⟨Dq,by omega⟩ (u:=m.used) dx.dl rfl (by dsimp only;omega) hu (λd ah=>(I.dl d ah).1) λd ah=>(I.dl d ah).2) ?_;rintro _ a8 ⟨rfl,ayK,ard⟩
   try dsimp only[ca,cT,cU,bo,bL]
   obtain⟨CC,hq,hW,NI⟩:=dx.R4 ard.done;have Aq:=afO.trans (fI.iW (λi=>og) hq hW NI);refine j1 (λ_=>?_) (λh=>absurd rfl h)
   try dsimp only[ca]
   try simp only[dG]
   refine⟨_,hq.at (j:=1) rfl,?_⟩;have Bv:o1 {m with d:=D3 (lC m.d) m.seq m.used m.dl}:=aa1 I.base rfl rfl rfl;have aps:tP {m with d:=D3 (lC m.d) m.seq m.used m.dl}:=by have low:=agB (jh.flush (jh.refl I.dev)) (Gt I.base I.x8) m.seq (u:=m.used) I.dl (by unfold cS.parts;omega);exact⟨low.fz,low.off.trans I.off,low.after.trans I.after,by have:=I.nC;rw[<-low.len]at this;exact this⟩
   refine UR hq Bv aps (λi=>og) λcd Zr kD JF=>?_
   try dsimp only[bL]
   have JF:=Aq.trans JF;refine j1 (λ_=>?_) (λh=>absurd rfl h)
   try dsimp only[ca]
   try simp only[dG]
   refine kD.put 7 (by omega) rfl λdp oH uz=>?_;rw[afz]at uz;refine uz.dv (j:=8) (v:=.slice none 0 0) (by omega) rfl λed yA vT=>?_;refine vT.dv (j:=9) (v:=.bool false) (by omega) rfl λdP yB xl=>?_;have K:=(oH.gL yA).gL yB;have c8:∀i,i=pp->h6 cd CJ i:=λi I=>I▸⟨_,by simp,(kD.cell.typed rfl).1⟩;have w1:fI dP pp pd {q with Bj:=none,dc:=0} dm Zr dq {m with d:=lC (D3 (lC m.d) m.seq m.used m.dl),used:=m.used+cS.parts m.dl.length,dl:=[],mm:=false} xs aA:=
    ⟨xl,wY K c8 kD.gate (by decide) (by decide),wU K c8 kD.dev (by decide),xE K c8 kD.mf (by decide) (by decide),Ax K c8 kD.st (by decide),μ.nil _ _ _ _,hE K c8 kD.stamps (by decide),kD.apart⟩
   refine ω.mk ⟨rfl,_,JF.trans (fI.iW (λi=>og) w1 (K.mono λi _ I=>.inl I) λi I=>?_)⟩;rcases I with I|I|I|I|I|⟨x,J,I⟩|I
   ·exact .inl (.inl I)
   ·exact .inl (.inr (.inl I))
   ·exact .inl (.inr (.inr (.inl I)))
   ·exact .inl (.inr (.inr (.inr (.inl I))))
   ·exact .inl (.inr (.inr (.inr (.inr (.inl I)))))
   ·cases J
   ·exact .inl (.inr (.inr (.inr (.inr (.inr (.inr I))))))
end
end Go.Proofs.YtcpdfhkhaekekaaGreat.G.cY
