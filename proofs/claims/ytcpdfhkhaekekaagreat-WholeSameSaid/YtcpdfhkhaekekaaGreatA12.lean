/- The walk of the functions, and the plain laws of the model: part of the proof. Conditions: none. -/
import Derived.Test.YtcpdfhkhaekekaaGreatA11
set_option linter.unusedVariables false
set_option linter.unusedSimpArgs false
namespace Go.Proofs.YtcpdfhkhaekekaaGreat.G.dI
open Go.bJ Go.RowKit
def ri(d:gd):aq:=[d.k,d.v*16+d.o,d.b,d.x,d.y]
def Bl(d:gd):aq:=if ix d=0 then ri d else[]
structure Zx(d:gd):Prop where
 k:1<=d.k/\d.k<6
 v:0<=d.v/\d.v<8
 o:0<=d.o/\d.o<8
 b:0<=d.b/\d.b<33
 x:0<=d.x/\d.x<24
 y:0<=d.y/\d.y<16
theorem abZ{d:gd}(hw:d.wf)(h:ix d=0):Zx d:=by
 obtain⟨k,v,o,b,x,y⟩:=d;obtain⟨J,ag⟩:=hw;unfold rY at J ag;dsimp only at J ag;unfold ix at h;split at h
 ·rename_i hk;split at h
  ·rename_i aG;split at h
   ·rename_i ak;obtain⟨bb,eZ,ob,p7⟩:=ak;simp only[pk,lf,qI]at hk;have pc:k=1\/k=2\/k=3\/k=4\/k=5:=by omega
    rcases pc with rfl|rfl|rfl|rfl|rfl<;>simp[jL,pk,whole,uw,uv,tf,tg]at aG bb eZ ob p7<;>constructor<;>dsimp only<;>omega
   ·cases h
  ·cases h
 ·cases h
theorem atl:∀(v o:Fin 16),IntKind.i64.wrap ((BitVec.ofInt IntKind.i64.bits (IntKind.i64.wrap ((v.val:Int)*2^(min 4 IntKind.i64.bits)))|||BitVec.ofInt IntKind.i64.bits (o.val:Int)).toNat:Int)=(v.val:Int)*16+(o.val:Int):=by decide+kernel
theorem Xv{v o:Int}(az:0<=v/\v<16)(aG:0<=o/\o<16):IntKind.i64.wrap ((BitVec.ofInt IntKind.i64.bits (IntKind.i64.wrap (v*2^(min 4 IntKind.i64.bits)))|||BitVec.ofInt IntKind.i64.bits o).toNat:Int)=v*16+o:=by obtain⟨m,rfl⟩:=eF az.1;obtain⟨n,rfl⟩:=eF aG.1;exact atl ⟨m,by omega⟩ ⟨n,by omega⟩
theorem al0:∀(x:Fin 256),IntKind.i64.wrap (IntKind.u8.wrap ((BitVec.ofInt IntKind.u8.bits (x.val:Int)&&&BitVec.ofInt IntKind.u8.bits 15).toNat:Int))=(x.val:Int)%16:=by decide+kernel
theorem alZ{x:Int}(h:rY x):IntKind.i64.wrap (IntKind.u8.wrap ((BitVec.ofInt IntKind.u8.bits x&&&BitVec.ofInt IntKind.u8.bits 15).toNat:Int))=x%16:=by obtain⟨n,rfl⟩:=eF h.1;exact al0 ⟨n,by have:=h.2;omega⟩
theorem avc:∀(x:Fin 256),IntKind.i64.wrap (Int.fdiv (x.val:Int) (2^(min 4 IntKind.u8.bits)))=(x.val:Int)/16:=by decide+kernel
theorem avb{x:Int}(h:rY x):IntKind.i64.wrap (Int.fdiv x (2^(min 4 IntKind.u8.bits)))=x/16:=by obtain⟨n,rfl⟩:=eF h.1;exact avc ⟨n,by have:=h.2;omega⟩
theorem anD{d:gd}(h:Zx d):Bytes (ri d):=by
 intro z aI
 have:=h.k;have:=h.v;have:=h.o;have:=h.b;have:=h.x;have:=h.y
 simp only[ri,fB,oi,py]at aI;omega
theorem akg{d:gd}(ah:d.wf)(w:World):Fq.C d.k d.v d.o d.b (cH d.x) (cH d.y) w (ω λv w'=>∃p c,v=.tuple #[.slice p (Bl d).length c,.int .i64 (ix d)]/\η w w'/\μ w' w.heap.size dt 1 p (Bl d).length c (a7 (Bl d))):=by
 apply Fq.ok;unfold Fq.main;rintro δ ε rfl rfl;have σ:=μ.new (w:=w) d.cells fS;have θ:=η.alloc w (.cells d.cells.toArray fS);unfold gd.cells at σ θ;generalize w.alloc (.cells #[.int .i64 d.k,.int .i64 d.v,.int .i64 d.o,.int .i64 d.b,.complex .f64 (cH d.x) (cH d.y)] fS)=ε at σ θ⊢;refine⟨d.cells.toArray,rfl,σ.cells,?_⟩;refine κ.use (CB ah _) ?_;rintro _ υ ⟨rfl,ρ⟩
 try dsimp only[bL]
 have df:=θ.trans ρ;have af:=σ.ex ρ;refine bt (λh=>?_) (λh=>?_)
 ·have π:¬ix d=0:=by simpa using h
  refine ω.mk ⟨none,0,?_,df,?_⟩
  ·unfold Bl;rw[aL π];rfl
  ·unfold Bl;rw[aL π];exact μ.nil _ _ _ _
 ·have π:ix d=0:=by simpa using h
  have bm:=abZ ah π;have apQ:=bm.v;have zU:=bm.o;have azy:=bm.k;have azx:=bm.b;have Qa:=bm.x;have azz:=bm.y;refine⟨d.k,af.at (by rfl),d.v,af.at (by rfl),d.o,af.at (by rfl),d.b,af.at (by rfl),cH d.x,cH d.y,af.at (by rfl),?_⟩;obtain⟨_,_,_,axS,_,_⟩:=Ln ah.1;obtain⟨_,_,_,ty,_,_⟩:=Ln ah.2;rw[axS]
  try dsimp only[bo]
  refine bU (bI (by show(0:Int)<=d.x;omega)) (bU (bI (by show d.x<=255;omega)) ?_);refine⟨cH d.x,cH d.y,af.at (by rfl),?_⟩;rw[ty]
  try dsimp only[bo]
  refine bU (bI (by show(0:Int)<=d.y;omega)) (bU (bI (by show d.y<=255;omega)) ?_);rw[Xv ⟨apQ.1,by omega⟩ ⟨zU.1,by omega⟩,tJ,tJ,tJ,G5 (a:=d.k) (by omega) (by omega),G5 (a:=d.v*16+d.o) (by omega) (by omega),G5 (a:=d.b) (by omega) (by omega)];rintro aa ao rfl rfl;have cJ:=μ.alloc (w:=υ) (a7 (ri d)) dt 1 5 rfl;have aC:=η.alloc υ (.cells (a7 (ri d)).toArray dt);refine ω.mk ⟨some ⟨υ.heap.size,0,none⟩,5,?_,df.trans aC,?_⟩
  ·unfold Bl;rw[aN π,π];rfl
  ·unfold Bl;rw[aN π];exact cJ.lower df.size
def vx:aq->gd
 |[a,b,c,d,e]=>⟨a,b/16,b%16,c,d,e⟩
 |_=>⟨0,0,0,0,0,0⟩
theorem abv{xs:aq}(h:Bytes xs):(vx xs).wf:=by
 unfold vx;split
 ·exact⟨h _ (by simp),h _ (by simp)⟩
 ·exact⟨⟨by decide,by decide⟩,⟨by decide,by decide⟩⟩
def vy(xs:aq):aY:=if ix (vx xs)=0 then(vx xs).cells else nw
theorem aoa{xs:aq}(h:xs.length=5):∃a b c d e,xs=[a,b,c,d,e]:=by
 match xs,h with
 |[a,b,c,d,e],_=>exact⟨a,b,c,d,e,rfl⟩
theorem ayC:∀z∈nw,z.oneCell'=true:=cells_one
theorem Uk(d:gd):∀z∈d.cells,z.oneCell'=true:=cells_one
theorem aj9{p:γ}{c:Nat}{xs:aq}{w:World}(π:bd w p (a7 xs))(ar:xs.length=5)(τ:Bytes xs):
  Fp.C p 5 c w (ω λv w'=>v=.tuple #[.agg (vy xs).toArray,.int .i64 (if ix (vx xs)=0 then 0 else 2)]/\η w w'):=by
 apply Fp.ok;unfold Fp.main;rintro δ ε rfl rfl;have σ:=μ.new (w:=w) nw fS;have θ:=η.alloc w (.cells nw.toArray fS);unfold nw at σ θ;have eL:w.heap.size<=w.heap.size:=dO _;generalize yk:w.heap.size=δ at σ eL⊢;generalize w.alloc (.cells #[.int .i64 0,.int .i64 0,.int .i64 0,.int .i64 0,.complex .f64 0 0] fS)=ε at σ θ⊢;have arn:=abv τ;obtain⟨a,b,c2,d,e,rfl⟩:=aoa ar;have De:=(π.ex θ).ex (η.drew ε);obtain⟨q,rfl,lj⟩:=De.one (v:=.int .u8 a) (by rfl);obtain⟨_,aP,cM⟩:=De.many (j:=1) (v:=.int .u8 b) (by rfl);cases aP;obtain⟨_,aP,fC⟩:=De.many (j:=2) (v:=.int .u8 c2) (by rfl);cases aP;obtain⟨_,aP,iY⟩:=De.many (j:=3) (v:=.int .u8 d) (by rfl);cases aP;obtain⟨_,aP,rN⟩:=De.many (j:=4) (v:=.int .u8 e) (by rfl);cases aP;have aR:rY a:=τ _ (by simp);have rl:rY b:=τ _ (by simp);have s0:rY c2:=τ _ (by simp);rw[cond_neg (by rfl)];refine bU (by decide) ?_
 try dsimp only[bo]
 refine⟨a,lj,bU (by decide) ?_⟩;refine⟨b,cM,bU (by decide) ?_⟩;refine⟨b,cM,bU (by decide) ?_⟩;refine⟨c2,fC,bU (by decide) ?_⟩;refine⟨d,iY,bU (by decide) ?_⟩;refine⟨e,rN,?_⟩;rintro ζ χ rfl rfl;have aeO:=σ.ex (η.drew ε);have bh:=μ.new (w:=ε.drew) nw fS;have ad:=η.alloc ε.drew (.cells nw.toArray fS);unfold nw at bh ad;have b1:ε.drew.heap.size≠δ:=by have:=aeO.ge rfl;dsimp only at this;omega
 have I1:w.heap.size<=ε.drew.heap.size:=(θ.trans (η.drew ε)).size;generalize ε.drew.heap.size=ζ at bh b1 I1⊢;generalize ε.drew.alloc (.cells #[.int .i64 0,.int .i64 0,.int .i64 0,.int .i64 0,.complex .f64 0 0] fS)=χ at bh ad⊢;have pa:=De.ex ad;have IA:χ.cell? q=some (.int .u8 a):=by
  have:=pa 0 _ rfl
  rwa[show q.add 0=q from Addr.add_zero' q]at this
 refine⟨rfl,pa 4 _ rfl,pa 3 _ rfl,pa 2 _ rfl,pa 1 _ rfl,pa 1 _ rfl,IA,?_⟩;rw[avb rl,alZ rl,bS (x:=a) (by have:=aR.1;omega) (by have:=aR.2;omega),bS (x:=c2) (by have:=s0.1;omega) (by have:=s0.2;omega)];refine bh.put (by rfl) cells_one λao cI cJ=>?_;have σ:=(aeO.ex ad).aO cI (λx J=>by cases J;exactλe=>b1 e.symm);have aC:η w ao:=(θ.trans ((η.drew ε).trans ad)).then cI λi I=>I▸I1;refine⟨(vx [a,b,c2,d,e]).cells.toArray,rfl,cJ.cells,?_⟩;refine κ.use (CB arn _) ?_;rintro _ an ⟨rfl,ay⟩
 try dsimp only[bL]
 have ajF:=aC.trans ay;refine bt (λh=>?_) (λh=>?_)
 ·have π:¬ix (vx [a,b,c2,d,e])=0:=by simpa using h
  refine(σ.ex ay).put (by rfl) cells_one λa8 hW eN=>?_;refine⟨nw.toArray,rfl,eN.cells,ω.mk ⟨?_,ajF.then hW λi I=>by omega⟩⟩;unfold vy;rw[aL π,aL π]
 ·have π:ix (vx [a,b,c2,d,e])=0:=by simpa using h
  refine⟨(vx [a,b,c2,d,e]).cells.toArray,rfl,(cJ.ex ay).cells,bU (by rfl) ?_⟩;refine(σ.ex ay).put (by rfl) cells_one λa8 hW eN=>?_;refine⟨(vx [a,b,c2,d,e]).cells.toArray,rfl,eN.cells,ω.mk ⟨?_,ajF.then hW λi I=>by omega⟩⟩;unfold vy;rw[aN π,aN π]
def kc(l:List gd):aY:=(l.map gd.cells).flatten
theorem Pz(l:List gd):(kc l).length=l.length*5:=by
 unfold kc
 induction l with
 |nil=>rfl
 |cons d r cw=>simp only[yW,DP,fw,cw,kU];show 5+_=_;omega
theorem amW(l:List gd):∀z∈kc l,z.oneCell'=true:=by intro z aI;obtain⟨r,φ,aI⟩:=List.mem_flatten.1 aI;obtain⟨d,_,rfl⟩:=gx.1 φ;exact Uk d z aI
theorem Lb(a b:List gd):kc (a++b)=kc a++kc b:=by simp[kc]
theorem abE{w:World}{p:γ}{l:List gd}(h:bd w p (kc l)){i:Nat}{d:gd}(I:l[i]?=some d):∃a,p=some a/\aB w (a.add (i*5)) d.cells:=
 bd.row h (λr φ=>by obtain⟨d,_,rfl⟩:=gx.1 φ;rfl) (by omega) (by rw[List.getElem?_map,I];rfl)
theorem anF(l:List gd):(l.flatMap ri).length=l.length*5:=by
 induction l with
 |nil=>rfl
 |cons d r cw=>rw[As,fw,cw,kU];show 5+_=_;omega
theorem aa3(x:Int):rY (x%256):=⟨Nt _ (by omega),Nj _ (by omega)⟩
def rP(seq num:Int)(l:List gd):aq:=bB.be 4 seq++[num%256,(l.length:Int)%256]++l.flatMap ri
theorem RV(seq num:Int)(l:List gd):(rP seq num l).length=6+l.length*5:=by unfold rP;rw[fw,fw,bB.tV,anF];rfl
theorem anE{l:List gd}(hw:∀d∈l,d.wf)(bm:∀d∈l,ix d=0):Bytes (l.flatMap ri):=by intro z aI;obtain⟨d,ah,aI⟩:=qk.1 aI;exact anD (abZ (hw d ah) (bm d ah)) z aI
theorem apI(seq num:Int)(n:Nat):Bytes (bB.be 4 seq++[num%256,(n:Int)%256]):=by
 refine Bytes.append (bB.CU _ _) ?_;intro z aI;simp only[fB,oi,py]at aI;rcases aI with rfl|rfl
 ·exact aa3 _
 ·exact aa3 _
theorem RU{seq num:Int}{l:List gd}(hw:∀d∈l,d.wf)(bm:∀d∈l,ix d=0):Bytes (rP seq num l):=(apI _ _ _).append (anE hw bm)
theorem agi(seq num:Int)(p:γ)(n c:Nat)(l:List gd)(w:World)(ab:0<=seq/\seq<4294967296)(π:bd w p (kc l))(ar:l.length=n)(h8:n<=6)(hw:∀d∈l,d.wf)(bm:∀d∈l,ix d=0):
  qR.C seq num p n c w (ω λv w'=>∃b5 aW,v=.tuple #[.slice b5 64 aW,.int .i64 0]/\μ w' w.heap.size dt 1 b5 64 aW (a7 (lk (rP seq num l)))/\η w w'):=by
 apply qR.ok;unfold qR.main;rintro δ ε rfl rfl;have σ:=μ.new (w:=w) [.int .i64 seq] cz;have θ:=η.alloc w (.cells [Value.int .i64 seq].toArray cz);generalize w.alloc (.cells #[.int .i64 seq] cz)=ε at σ θ⊢;refine κ.use (bB.ZT (some ⟨w.heap.size,0,none⟩) 1 1 [seq] 4 ε σ.cells rfl (by omega)) ?_;rintro _ υ ⟨aX,bu,c2,rfl,adt,af,ρ⟩
 try dsimp only[ca,cT,cU,bo,bL,ee]
 have ata:[seq].all (bB.pt 4)=true:=by simp only[List.all_cons,List.all_nil,Bool.and_true,bB.pt,lf,qI];exact⟨ab.1,ab.2⟩
 have l4:bB.qm 4 [seq]=bB.be 4 seq:=by
  have:=(bB.J4 (k:=4) (by omega) (by omega) [seq]).2
  rw[aN ata]at this;have e:((4:Nat):Int)=4:=rfl;rw[e]at this;rw[this];simp
 rw[l4]at af;have ap5:bu=4:=by have:=Am (xs:=bB.be 4 seq) af;rw[bB.tV]at this;exact this.symm
 subst ap5;rintro ax χ rfl rfl;rw[tJ,tJ];have bh:=μ.alloc (w:=υ) (a7 [num%256,(n:Int)%256]) dt 1 2 rfl;have ad:=η.alloc υ (.cells (a7 [num%256,(n:Int)%256]).toArray dt);generalize arh:υ.alloc (.cells #[.int .u8 (num%256),.int .u8 ((n:Int)%256)] dt)=χ;have ari:υ.alloc (.cells (a7 [num%256,(n:Int)%256]).toArray dt)=χ:=arh;rw[ari]at bh ad;have gb:η w χ:=θ.trans (ρ.trans ad);refine mx (B:=w.heap.size) ((af.lower θ.size).ex ad) gb.size (a7 [num%256,(n:Int)%256]) bh.cells rfl (Ec _) rfl (by omega) (by omega) ?_;intro gp jk an cB dT;have ay:η w an:=gb.then dT λi⟨x,e,I⟩=>by
  have:=((af.lower θ.size).ge e).1
  omega
 have iJ:a7 (bB.be 4 seq)++a7 [num%256,(n:Int)%256]=a7 (bB.be 4 seq++[num%256,(n:Int)%256]):=Kq _ _;have cB:μ an w.heap.size dt 1 gp (4+2) jk (a7 (bB.be 4 seq++[num%256,(n:Int)%256])):=by rw[<-iJ];exact cB
 unfold qR.bb;refine⟨λjP iD jC AB AA D6 t29 t30 w'=>p=AB/\n=AA/\c=D6/\t29=(n:Int)/\0<=t30/\t30<=n/\iD=6+t30.toNat*5/\μ w' w.heap.size dt 1 jP iD jC (a7 (bB.be 4 seq++[num%256,(n:Int)%256]++(l.take t30.toNat).flatMap ri))/\η w w',
  λjP iD jC AB AA D6 t29 t30 w'=>(n-t30).toNat,⟨rfl,rfl,rfl,rfl,by omega,by omega,rfl,by simpa using cB,ay⟩,?_⟩
 rintro jP iD jC _ _ _ _ t30 w' ⟨rfl,rfl,rfl,rfl,aF,h1,hlen,aG,J⟩;unfold qR.δ;refine bt (λh=>?_) (λh=>?_)
 ·have h:=b6 h;obtain⟨j,rfl⟩:=eF aF;have ψ:j<l.length:=by omega
  obtain⟨d,ah,hm,yn⟩:=ba.pU ψ;refine bU (bI aF) (bU (bI h) ?_);obtain⟨a,rfl,l4⟩:=abE (π.ex J) ah
  try dsimp only[bo]
  refine⟨d.cells.toArray,rfl,l4,?_⟩;rintro ax aZ rfl rfl;have bY:=μ.new (w:=w') nw fS;have aM:=η.alloc w' (.cells nw.toArray fS);unfold nw at bY aM;generalize w'.alloc (.cells #[.int .i64 0,.int .i64 0,.int .i64 0,.int .i64 0,.complex .f64 0 0] fS)=aZ at bY aM⊢;refine bU (by rfl) ?_;refine bY.put (by rfl) cells_one λa8 hW eN=>?_;have aU:η w' a8:=aM.then hW λi I=>I▸dO _;refine⟨d.cells.toArray,rfl,eN.cells,?_⟩;refine κ.use (akg (hw d hm) _) ?_;rintro _ bV ⟨jv,nA,rfl,cj,e4⟩
  try dsimp only[ca,cT,cU,bo,bL,ee]
  have IY:=bm d hm;have iU:Bl d=ri d:=by unfold Bl;rw[aN IY]
  rw[iU]at e4⊢;rw[cond_neg (by simp[IY])];have Y8:=aU.trans cj;refine mx (B:=w.heap.size) (aG.ex Y8) (J.trans Y8).size (a7 (ri d)) e4.cells (by simp[a7]) (Ec _) rfl (by have:(ri d).length=5:=rfl;omega) (by have:(ri d).length=5:=rfl;omega) ?_;intro fv iw bW iV iq;have ct:η w bW:=(J.trans Y8).then iq λi⟨x,e,I⟩=>by
   have:=(aG.ge e).1
   omega
  have sb:l.take (j+1)=l.take j++[d]:=by rw[Ry,ah];rfl
  have iK:IntKind.i64.wrap ((j:Int)+1)=((j+1:Nat):Int):=by rw[bS (by omega) (by omega)];rfl
  rw[iK];have Kl:((j+1:Nat):Int).toNat=j+1:=rfl;refine⟨⟨rfl,rfl,rfl,rfl,by omega,by omega,?_,?_,ct⟩,by((try dsimp only);omega)⟩
  ·show iD+5=_;omega
  ·show μ bW _ _ _ fv (iD+5) iw (a7 (_++(l.take (j+1)).flatMap ri));rw[sb,xB,<-nc,<-Kq]
   have:[d].flatMap ri=ri d:=by simp
   rw[this];exact iV
 ·have h:=dn h;have e:t30=n:=by omega
  subst e;have Ux:l.take ((n:Nat):Int).toNat=l:=by rw[ch];exact hR (by omega)
  rw[Ux]at aG;have PD:bB.be 4 seq++[num%256,(n:Int)%256]++l.flatMap ri=rP seq num l:=by unfold rP;rw[ar]
  rw[PD]at aG;have hle:=RV seq num l;unfold qR.aV;refine κ.use (S3 jP iD jC _ w' aG.cells (by omega) (RU hw bm)) ?_;rintro _ υ ⟨q,m,e,rfl,hm,uC,ayx⟩
  try dsimp only[ca,cT,cU,bo,bL,ee]
  have gD:vu (rP seq num l)=lk (rP seq num l):=TW (by omega);have apE:K2 (rP seq num l)=0:=by unfold K2;rw[aL (by omega)]
  rw[gD]at uC
  have:m=64:=by have:=Am uC;rw[y5 (by omega)]at this;exact this.symm
  subst this;rw[apE];exact ω.mk ⟨q,e,rfl,uC.lower J.size,J.trans ayx⟩
def dl(xs:aq)(i:Nat):gd:=vx ((xs.drop (6+5*i)).take 5)
def uf(xs:aq)(m:Nat):List gd:=(List.range m).map (dl xs)
def fW(xs:aq):Int:=xs.getD 5 0
def reads(xs:aq):Option (List gd):=if oK xs=0/\1<=fW xs/\fW xs<=6/\∀d∈uf xs (fW xs).toNat,ix d=0 then some (uf xs (fW xs).toNat)else none
def rO(seq num:Int)(xs:aq):Option (List gd):=
 match reads xs with
 |some l=>if lk (rP seq num l)=xs then some l else none
 |none=>none
theorem abB{xs:aq}(τ:Bytes xs)(m:Nat):∀d∈uf xs m,d.wf:=λd ah=>by obtain⟨i,_,rfl⟩:=gx.1 ah;exact abv ((τ.drop _).take _)
theorem Un(xs:aq)(m:Nat):(uf xs m).length=m:=by simp[uf]
theorem abA(xs:aq)(m:Nat):uf xs (m+1)=uf xs m++[dl xs m]:=by simp[uf,v8]
theorem Q5{xs:aq}(h:oK xs=0):xs.length=64/\yQ xs=xs.take 60:=by
 unfold oK at h;unfold yQ;split at h
 ·rename_i ak;rw[aN ak];split at h
  ·rename_i π;exact⟨ak,by rw[aN π]⟩
  ·cases h
 ·cases h
theorem am9{xs:aq}{i:Nat}(I:i<6):((xs.take 60).drop (6+5*i)).take 5=(xs.drop (6+5*i)).take 5:=by rw[G2,Ce,sr (by omega)]
theorem atB{w:World}{p:γ}{c:Nat}{xs:aq}(h:bd w p (a7 xs))(π:xs.length<=c)(i:Nat):bd w (dL p c i 1) (a7 ((xs.drop i).take 5)):=by
 have:=h.slice c i 5 (by rw[sC];exact π)
 unfold a7 at this⊢;rw[xA,yX];exact this
theorem JZ(p:γ)(c:Nat)(xs:aq)(seq num:Int)(w:World)(π:bd w p (a7 xs))(ar:xs.length=64)(jG:64<=c)(τ:Bytes xs)(ab:0<=seq/\seq<4294967296):
  qQ.C p 64 c seq num w (ω λv w'=>η w w'/\∃q m d,v=.tuple #[.slice q m d,.bool (rO seq num xs).isSome]/\∀l,rO seq num xs=some l->l.length=m/\m<=6/\μ w' w.heap.size fS 5 q m d (kc l)):=by
 apply qQ.ok;unfold qQ.main;refine κ.use (KJ p 64 c xs w π ar jG τ) ?_;rintro _ ε ⟨ae,aD,c1,rfl,se,σ,θ⟩
 try dsimp only[ca,cT,cU,bo,bL,ee]
 refine bt (λh=>?_) (λh=>?_)
 ·have h:¬oK xs=0:=by simpa using h
  have e:reads xs=none:=by unfold reads;rw[aL (λc=>h c.1)]
  exact ω.mk ⟨θ,none,0,0,by unfold rO;rw[e];rfl,λl ak=>by unfold rO at ak;rw[e]at ak;cases ak⟩
 have h:oK xs=0:=by simpa using h
 obtain⟨_,eh⟩:=Q5 h;rw[eh]at σ;have Ma:aD=60:=by have:=Am σ;rw[hs,ar]at this;exact this.symm
 subst Ma;have s0:60<=c1:=σ.2.1;have dx:(a7 (xs.take 60))[5]?=some (.int .u8 (fW xs)):=by unfold a7 fW;rw[List.getElem?_map,List.getElem?_take,aN (by omega),List.getD_eq_getElem?_getD,List.getElem?_eq_getElem (by omega)];rfl
 obtain⟨aw,rfl,DY⟩:=σ.cells.many dx;refine bU (by decide) ?_
 try dsimp only[bo]
 refine⟨fW xs,DY,?_⟩;refine bt (λh1=>?_) (λh1=>?_)
 ·have h1:=b6 h1;have e:reads xs=none:=by unfold reads;rw[aL (λc=>by omega)]
  exact ω.mk ⟨θ,none,0,0,by unfold rO;rw[e];rfl,λl ak=>by unfold rO at ak;rw[e]at ak;cases ak⟩
 have h1:=dn h1;refine bU (by decide) ?_;refine⟨fW xs,DY,?_⟩;refine bt (λι=>?_) (λι=>?_)
 ·have ι:=b6 ι;have e:reads xs=none:=by unfold reads;rw[aL (λc=>by omega)]
  exact ω.mk ⟨θ,none,0,0,by unfold rO;rw[e];rfl,λl ak=>by unfold rO at ak;rw[e]at ak;cases ak⟩
 have ι:=dn ι;refine bU (by decide) ?_;refine⟨fW xs,DY,?_⟩;rw[bS (x:=fW xs) (by omega) (by omega)];obtain⟨m,hm⟩:=eF (show 0<=fW xs by omega);have aqj:(fW xs).toNat=m:=by omega
 have aza:=θ.size;unfold qQ.bb;refine⟨λcy cp cG t1 t2 jP iD jC fH fq fQ t37 t38 w'=>p=cy/\cp=64/\c=cG/\seq=t1/\num=t2/\jP=some aw/\iD=60/\c1=jC/\t37=fW xs/\0<=t38/\t38<=m/\fq=t38.toNat/\(∀d∈uf xs t38.toNat,ix d=0)/\μ w' w.heap.size fS 5 fH fq fQ (kc (uf xs t38.toNat))/\μ w' w.heap.size dt 1 (some aw) 60 c1 (a7 (xs.take 60))/\η w w',
  λcy cp cG t1 t2 jP iD jC fH fq fQ t37 t38 w'=>(m-t38).toNat,⟨rfl,rfl,rfl,rfl,rfl,rfl,rfl,rfl,rfl,by omega,by omega,rfl,λd ah=>(by cases ah),μ.nil _ _ _ _,σ,θ⟩,?_⟩
 rintro _ _ _ _ _ _ _ _ fH fq fQ _ t38 w' ⟨rfl,rfl,rfl,rfl,rfl,rfl,rfl,rfl,rfl,aF,hle,hlen,dJ,aG,σ,J⟩;unfold qQ.δ;obtain⟨j,rfl⟩:=eF aF;rw[ch]at hlen dJ aG;obtain rfl:=hlen.symm;refine bt (λh=>?_) (λaJ=>?_)
 ·have h:=b6 h;have ψ:j<6:=by omega
  have aP:IntKind.i64.wrap (6+IntKind.i64.wrap (5*(j:Int)))=((6+5*j:Nat):Int):=by rw[bS (x:=5*(j:Int)) (by omega) (by omega),bS (by omega) (by omega)];omega
  have bM:IntKind.i64.wrap (((6+5*j:Nat):Int)+5)=((11+5*j:Nat):Int):=by rw[bS (by omega) (by omega)];omega
  rw[aP,bM,ch,ch];refine bU (bI (by omega)) (bU (bI (by omega)) (bU (bI (by omega)) (bU (bI (by omega)) ?_)));have adA:=atB (c:=c1) σ.cells (by rw[hs,ar];omega) (6+5*j);rw[am9 ψ]at adA;have iJ:11+5*j-(6+5*j)=5:=by omega
  rw[iJ];have apj:Bytes ((xs.drop (6+5*j)).take 5):=(τ.drop _).take _;have ap6:((xs.drop (6+5*j)).take 5).length=5:=by rw[hs,lg,ar];omega
  refine κ.use (aj9 adA ap6 apj) ?_;rintro _ χ ⟨rfl,ad⟩
  try dsimp only[ca,cT,cU,bo,bL,hA,h7]
  rintro cu an rfl rfl;have cB:=μ.new (w:=χ) nw fS;have ay:=η.alloc χ (.cells nw.toArray fS);unfold nw at cB ay;generalize χ.alloc (.cells #[.int .i64 0,.int .i64 0,.int .i64 0,.int .i64 0,.complex .f64 0 0] fS)=an at cB ay⊢;have k7:(vy ((xs.drop (6+5*j)).take 5)).length=5:=by unfold vy;split<;>rfl
  have aoP:∀y∈vy ((xs.drop (6+5*j)).take 5),y.oneCell'=true:=by unfold vy;split;exact Uk _;exact ayC
  refine bU (bI (by rw[fP];exact k7)) ?_;refine cB.put (cs:=vy ((xs.drop (6+5*j)).take 5)) k7 aoP λaZ eD bY=>?_;have Y5:η χ aZ:=ay.then eD λi I=>I▸dO _;have aM:η w' aZ:=ad.trans Y5;by_cases ah:ix (dl xs j)=0
  ·have w6:ix (vx ((xs.drop (6+5*j)).take 5))=0:=ah;rw[aN w6,cond_neg (by rfl)];refine⟨(vy ((xs.drop (6+5*j)).take 5)).toArray,by rw[fP];exact k7,bY.cells,?_⟩;have VK:Instr.fill (λi=>some (i*5,5)) (madeCells #[(Value.int .i64 0),(Value.int .i64 0),(Value.int .i64 0),(Value.int .i64 0),(Value.complex .f64 0 0)] (1*5)) [(0,(Value.agg (vy ((xs.drop (6+5*j)).take 5)).toArray))]=some (vy ((xs.drop (6+5*j)).take 5)).toArray:=
    UO 5 _ _ (by rw[size_madeCells]) (by rw[fP];exact k7)
   rw[VK]
   try dsimp only[bo]
   rintro gu a8 rfl rfl;have aoQ:vy ((xs.drop (6+5*j)).take 5)=(dl xs j).cells:=by unfold vy;rw[aN w6];rfl
   rw[aoQ];have aU:=η.alloc aZ (.cells (dl xs j).cells.toArray fS);have oy:bd (aZ.alloc (.cells (dl xs j).cells.toArray fS)) (some ⟨aZ.heap.size,0,none⟩) (dl xs j).cells:=bd.alloc _ _;generalize aZ.alloc (.cells (dl xs j).cells.toArray fS)=a8 at aU oy⊢;have nv:=aM.trans aU;refine mx (B:=w.heap.size) (aG.ex nv) (J.trans nv).size (dl xs j).cells oy rfl (Uk _) rfl (by omega) (by omega) ?_;intro fv iw bW iV iq;have ct:η w bW:=(J.trans nv).then iq λi⟨x,e,I⟩=>by
    have:=(aG.ge e).1
    omega
   have tj:μ bW w.heap.size dt 1 (some aw) 60 c1 (a7 (xs.take 60)):=
    (σ.ex nv).cV iq fS (λi⟨x,e,I⟩=>I▸((aG.ex nv).typed e).1) (by decide)
   have iK:IntKind.i64.wrap ((j:Int)+1)=((j+1:Nat):Int):=by rw[bS (by omega) (by omega)];rfl
   rw[iK];have Kl:((j+1:Nat):Int).toNat=j+1:=rfl;refine⟨⟨rfl,rfl,rfl,rfl,rfl,rfl,rfl,rfl,rfl,by omega,by omega,rfl,?_,?_,tj,ct⟩,by((try dsimp only);omega)⟩
   ·intro d Bw;rw[Kl,abA]at Bw;rcases iC.1 Bw with Bw|Bw
    ·exact dJ d Bw
    ·rw[ma.1 Bw];exact ah
   ·rw[Kl,abA,Lb]
    have:kc [dl xs j]=(dl xs j).cells:=by simp[kc]
    rw[this];exact iV
  ·have w6:¬ix (vx ((xs.drop (6+5*j)).take 5))=0:=ah;rw[aL w6,cond_pos (by rfl)];have e:reads xs=none:=by
    unfold reads;rw[aL (λc=>ah (c.2.2.2 _ (gx.2 ⟨j,lh.2 (by omega),rfl⟩)))]
   exact ω.mk ⟨J.trans aM,none,0,0,by unfold rO;rw[e];rfl,λl ak=>by unfold rO at ak;rw[e]at ak;cases ak⟩
 ·have aJ:=dn aJ;obtain rfl:m=j:=by omega
  have e:reads xs=some (uf xs m):=by unfold reads;rw[aqj,aN ⟨‹oK xs=0›,by omega,by omega,dJ⟩]
  unfold qQ.aV;refine κ.use (agi seq num fH m fQ (uf xs m) w' ab aG.cells (Un _ _) (by omega) (abB τ _) dJ) ?_;rintro _ υ ⟨q,d,rfl,af,ρ⟩
  try dsimp only[ca,cT,cU,bo,bL,ee]
  rw[cond_pos (by rfl)];have Ds:(rP seq num (uf xs m)).length<=60:=by rw[RV,Un];omega
  refine κ.use (Zw q 64 d p 64 c _ xs υ af.cells (y5 Ds) (π.ex (J.trans ρ)) ar (J6 (RU (abB τ _) dJ)) τ) ?_;rintro _ χ ⟨rfl,ad⟩
  try dsimp only[dX]
  refine ω.mk ⟨J.trans (ρ.trans ad),fH,m,fQ,?_,?_⟩
  ·unfold rO;rw[e];dsimp only;by_cases aH:lk (rP seq num (uf xs m))=xs
   ·rw[aN aH,bI aH];rfl
   ·rw[aL aH,iX aH];rfl
  ·intro l ak;unfold rO at ak;rw[e]at ak;dsimp only at ak;split at ak
   ·cases ak;exact⟨Un _ _,by omega,aG.ex (ρ.trans ad)⟩
   ·cases ak
def qF(seq:Int)(now:List aq):Nat->Nat->List gd×Nat
 |0,n=>([],n)
 |f+1,n=>match rO seq n (now.getD (24+n) [])with
  |none=>([],n)
  |some l=>(l++(qF seq now f (n+1)).1,(qF seq now f (n+1)).2)
theorem Ti{w:World}{B pd:Nat}{d:ba.du}{D:bl}(h:ba.hF w B pd d D)(bH:ba.Good d)(aG:d.off=false)(ak:40<=d.now.length)(seq:Int)(ab:1<=seq/\seq<=1073741824):
  u0.C (some ⟨pd,0,none⟩) seq w (ω λv w'=>∃p c,v=.tuple #[.slice p (qF seq d.now 16 0).1.length c,.int .i64 ((qF seq d.now 16 0).2:Int),.int .i64 0]/\μ w' w.heap.size fS 5 p (qF seq d.now 16 0).1.length c (kc (qF seq d.now 16 0).1)/\η w w'):=by
 apply u0.ok;unfold u0.main
 try dsimp only[nD,jz]
 rw[jl (show¬seq<1 by omega),jl (show¬seq>1073741824 by omega)];unfold u0.bb
 refine⟨λt0 t1 oO oq qo t23 w'=>t0=some ⟨pd,0,none⟩/\seq=t1/\0<=t23/\t23<=16/\η w w'/\∃acc:List gd,acc.length=oq/\oq<=6*t23.toNat/\μ w' w.heap.size fS 5 oO oq qo (kc acc)/\
   qF seq d.now 16 0=(acc++(qF seq d.now (16-t23.toNat) t23.toNat).1,(qF seq d.now (16-t23.toNat) t23.toNat).2),
  λt0 t1 oO oq qo t23 w'=>(16-t23).toNat,⟨rfl,rfl,by omega,by omega,η.refl w,[],rfl,by omega,μ.nil _ _ _ _,rfl⟩,?_⟩
 rintro _ _ oO oq qo t23 w' ⟨rfl,rfl,aF,h1,J,acc,iM,aql,own,heq⟩;unfold u0.δ;obtain⟨k,rfl⟩:=eF aF;rw[ch]at heq aql;refine bt (λhk=>?_) (λhk=>?_)
 ·have hk:=b6 hk;have wV:IntKind.i64.wrap (24+(k:Int))=((24+k:Nat):Int):=by rw[bS (by omega) (by omega)];omega
  rw[wV];refine κ.use (ba.zn (h.ex J) bH ((24+k:Nat):Int)) ?_;rintro _ ε ⟨θ,Ga⟩;have rp:ba.uk d ((24+k:Nat):Int)=0:=by unfold ba.uk;rw[aG,aL (by simp),aL (by omega)]
  rcases Ga with⟨b1,_⟩|⟨_,ae,c1,s,mU,rfl,σ⟩
  ·exact(b1 rp).elim
  rw[ch]at mU
  try dsimp only[ca,cT,cU,bo,bL,ee]
  rw[cond_neg (by rfl)];have eU:ba.lx s:=bH.now s (fa mU);have VO:d.now.getD (24+k) []=s:=by rw[List.getD_eq_getElem?_getD,mU];rfl
  refine κ.use (JZ ae c1 s seq (k:Int) ε σ.cells eU.1 σ.2.1 eU.2 ⟨by omega,by omega⟩) ?_;rintro _ χ ⟨ad,q,m,e,rfl,Ga⟩
  try dsimp only[ca,cT,cU,bo,dX,ee]
  have bm:16-k=(16-(k+1))+1:=by omega
  have Jc:qF seq d.now (16-k) k=match rO seq k s with
   |none=>([],k)
   |some l=>(l++(qF seq d.now (16-(k+1)) (k+1)).1,(qF seq d.now (16-(k+1)) (k+1)).2):=by rw[bm,qF,VO]
  rw[Jc]at heq;cases φ:rO seq k s with
  |none=>
   rw[φ]at heq;rw[cond_pos (by rfl)];dsimp only at heq;rw[qi]at heq;refine ω.mk ⟨oO,qo,?_,?_,J.trans (θ.trans ad)⟩
   ·rw[heq];dsimp only;rw[iM]
   ·rw[heq];dsimp only;rw[iM];exact own.ex (θ.trans ad)
  |some l=>
   rw[φ]at heq;dsimp only at heq;obtain⟨adn,azG,ol⟩:=Ga l φ;rw[cond_neg (by rfl)];have gb:=θ.trans ad;refine mx (B:=w.heap.size) (own.ex gb) (J.trans gb).size (kc l) ol.cells (by rw[Pz,adn]) (amW l) rfl (by omega) (by omega) ?_;intro fv iw bW iV iq;have ct:η w bW:=(J.trans gb).then iq λi⟨x,e,I⟩=>by
    have:=(own.ge e).1
    omega
   have iK:IntKind.i64.wrap ((k:Int)+1)=((k+1:Nat):Int):=by rw[bS (by omega) (by omega)];rfl
   rw[iK];have Kl:((k+1:Nat):Int).toNat=k+1:=rfl;refine⟨⟨rfl,rfl,by omega,by omega,ct,acc++l,by rw[fw,iM,adn],by rw[Kl];omega,by rw[Lb];exact iV,?_⟩,by((try dsimp only);omega)⟩;rw[Kl,heq,nc]
 ·have hk:=dn hk;obtain rfl:k=16:=by omega
  have heq:qF seq d.now 16 0=(acc,16):=by rw[heq];simp[qF]
  refine ω.mk ⟨oO,qo,?_,?_,J⟩
  ·rw[heq];dsimp only;rw[iM];rfl
  ·rw[heq];dsimp only;rw[iM];exact own
theorem S2(p:γ)(n c:Nat)(w:World):EH.C p n c 6 w (ω λv w'=>∃eu dK,v=.func (.func 184) #[] #[.pointer (some ⟨eu,0,none⟩),.pointer (some ⟨dK,0,none⟩)]/\η w w'/\μ w' w.heap.size Kn 1 (some ⟨eu,0,none⟩) 1 1 [.slice p n c]/\μ w' w.heap.size cz 1 (some ⟨dK,0,none⟩) 1 1 [.int .i64 6]):=by apply EH.ok;unfold EH.main;rintro δ ε rfl rfl ζ υ rfl rfl;have σ:=μ.new (w:=w) [.slice p n c] Kn;have θ:=η.alloc w (.cells [Value.slice p n c].toArray Kn);generalize w.alloc (.cells #[.slice p n c] Kn)=ε at σ θ⊢;have af:=μ.new (w:=ε) [.int .i64 6] cz;have ρ:=η.alloc ε (.cells [Value.int .i64 6].toArray cz);generalize ε.alloc (.cells #[.int .i64 6] cz)=υ at af ρ⊢;refine⟨6,af.at (by rfl),?_⟩;rw[jl (by omega)];exact ω.mk ⟨_,_,rfl,θ.trans ρ,σ.ex ρ,af.lower θ.size⟩
theorem hF.grown{W bq:World}{B pd C:Nat}{d:ba.du}{D:bl}(h:ba.hF W B pd d D)(k:Kp W bq (wG W C)):ba.hF bq B pd d D:=
 h.aO k λi I ar=>by rcases(h.typed I).1 with t|t|t<;>exact ar.typed t
end Go.Proofs.YtcpdfhkhaekekaaGreat.G.dI
namespace Go.Proofs.YtcpdfhkhaekekaaGreat.G.cF
open Go.bJ Go.RowKit
theorem WV{s k q:Int}{R:bZ}(aH:vV q)(kE:mN s k R)(aG:∀e∈R,mG e)(dD:R.length=8):∀bw∈jg s k q (fg k R),Bytes bw:=by
 have ea:=vQ.1 kE.1.1;have Ql:=JB dD kE.1.2.1 k;have I9:=afw (k:=k) aG;generalize fg k R=t at Ql I9⊢;have acT:fW t.length<=11:=by unfold fW;omega
 have dJ:(zS s k q t).Ok:=⟨⟨by have:=aH.1;show 0<=q;omega,by have:=aH.2;show q<_;omega⟩,⟨by show 0<=s;omega,by show s<_;omega⟩,⟨by show 0<=k;omega,by show k<_;omega⟩,by show fW t.length<256;omega,by show t.length<_;omega⟩;intro bw mE;unfold jg at mE;rcases fB.1 mE with rfl|mE
 ·exact J6 (acZ dJ t)
 ·unfold th at mE;obtain⟨i,I,rfl⟩:=Rz.1 mE;rw[xC]at I;have gD:=Pk t (List.range (fW t.length))[i];have azr:eA t.length (List.range (fW t.length))[i]<=52:=by unfold eA;omega
  refine J6 (Bytes.append (Bytes.append (bB.CU 4 q) λx J=>?_) ((I9.drop _).take _));simp only[fB,oi,py]at J;omega
end Go.Proofs.YtcpdfhkhaekekaaGreat.G.cF
namespace Go.Proofs.YtcpdfhkhaekekaaGreat.G.cF
open Go.bJ Go.RowKit
open Go.bJ Go.RowKit
theorem M3{x:aq}(h:x.length<=60)(n m:Nat)(azM:n+m<=x.length):(((lk x).take 60).drop n).take m=(x.drop n).take m:=by rw[RT h];unfold pad;rw[DT (by omega),qj (by rw[lg];omega)]
theorem KW(q:Int):∃a b c d,bB.be 4 q=[a,b,c,d]:=by
 have h:=bB.tV 4 q
 match τ:bB.be 4 q with
 |[a,b,c,d]=>exact⟨a,b,c,d,rfl⟩
 |[]=>rw[τ]at h;simp at h
 |[_]=>rw[τ]at h;simp at h
 |[_,_]=>rw[τ]at h;simp at h
 |[_,_,_]=>rw[τ]at h;simp at h
 |_::_::_::_::_::_=>rw[τ]at h;simp at h
theorem apv(H:gZ)(t:aq):((oC H t).take 60).take 4=mh:=by
 have h1:=I0 H t
 have:=M3 (x:=s3 H t) (by omega) 0 4 (by omega)
 rw[RA,RA]at this;unfold oC;rw[this];rfl
theorem apt(H:gZ)(t:aq):dz (oC H t) 10 1=(H.m:Int):=by
 have h1:=I0 H t;have zM:((oC H t).take 60).length=60:=by unfold oC;rw[hs,y5 (by omega)];rfl
 unfold dz;rw[(bB.U1 (by omega) (by omega) (n:=((oC H t).take 60).length) rfl (by omega) (by omega)).1]
 have:=M3 (x:=s3 H t) (by omega) 10 1 (by omega)
 unfold oC;have ant:(10:Int).toNat=10:=rfl;have aP:(1:Int).toNat=1:=rfl;rw[ant,aP,this];obtain⟨a,b,c,d,aH⟩:=KW H.q;unfold s3 Df zR mQ;rw[aH];simp[mh,bB.num]
theorem aee{q:Int}{i:Nat}{part:aq}(h:part.length<=52):said (BR q i part)=part.length/\partOf (BR q i part)=part:=by
 have ak:=QJ q i part;obtain⟨a,b,c,d,aH⟩:=KW q;have adH:said (BR q i part)=part.length:=by
  have:=M3 (x:=vP q i part) (by omega) 5 1 (by omega)
  have g:=hr (λl=>l[0]?) this;simp only[List.getElem?_take,List.getElem?_drop]at g;unfold said BR;have e:(lk (vP q i part)).take 60=pad (vP q i part):=RT (by omega);rw[e];unfold pad;rw[List.getElem?_append_left (by omega)];unfold vP;rw[aH];simp
 refine⟨adH,?_⟩;unfold partOf;rw[adH,ch];unfold BR;rw[M3 (by omega) 6 part.length (by omega)];unfold vP;rw[aH];simp
theorem chunks{t:aq}:∀m,(List.range m).flatMap (chunk t)=t.take (52*m)
 |0=>by simp
 |m+1=>by
  rw[v8,xB,chunks m];have e:52*(m+1)=52*m+52:=by omega
  rw[e,List.take_add];congr 1;simp only[As,List.flatMap_nil,qi];unfold chunk eA;by_cases h:52<=t.length-52*m
  ·rw[sr h]
  ·rw[Nat.min_eq_right (by omega),hR (by rw[lg];exact dO _),hR (by rw[lg];omega)]
theorem TT(t:aq)(j:Nat):(chunk t j).length<=52:=by rw[Pk];unfold eA;omega
theorem aen(q:Int)(t:aq):∀m,(th q t (List.range m)).flatMap partOf=(List.range m).flatMap (chunk t)
 |0=>rfl
 |m+1=>by rw[v8,aeo,xB,xB,aen q t m];congr 1;simp only[As,List.flatMap_nil,qi];exact(aee (TT t m)).2
theorem asg(q:Int)(t:aq):(th q t (List.range (fW t.length))).flatMap partOf=t:=by rw[aen,chunks,hR];unfold fW;omega
theorem asf{q:Int}{t:aq}{xs:List Nat}:∀bw∈th q t xs,said bw<=52:=λbw h=>by unfold th at h;obtain⟨i,I,rfl⟩:=Rz.1 h;have h:=TT t xs[i];rw[(aee h).1];omega
abbrev OO:=bZ×Int×Int×Int×Int
open Classical in
noncomputable def Bb(pgs:List aq):OO:=if Good pgs then(pz pgs,oM pgs,lH pgs,uI pgs,0)else(cH [],0,0,0,11)
theorem aau{pgs:List aq}(h:Good pgs):Bb pgs=(pz pgs,oM pgs,lH pgs,uI pgs,0):=by unfold Bb;rw[aN h]
theorem aat{pgs:List aq}(h:¬Good pgs):Bb pgs=(cH [],0,0,0,11):=by unfold Bb;rw[aL h]
def akY(a:OO)(w:World)(v:Value)(w':World):Prop:=∃ps,v=.tuple #[.agg (bT a.1 ps).toArray,.agg (two a.2.1 a.2.2.1).toArray,.int .i64 a.2.2.2.1,.int .i64 a.2.2.2.2]/\fV w' a.1 ps/\η w w'
theorem am1{pgs:List aq}(τ:∀bw∈pgs,Bytes bw){p:γ}{n c:Nat}(ar:n<=9223372036854775807){w:World}(hp:r0 w p n c pgs):p8.C p n c w (ω (akY (Bb pgs) w)):=by
 by_cases bH:Good pgs
 ·rw[aau bH];refine(Zu hp τ ar).mono λe w'⟨v,he,J,h⟩=>⟨v,he,?_⟩;rcases h with⟨_,ps,az,cb⟩|⟨h,_⟩
  ·exact⟨ps,az,cb,J⟩
  ·exact absurd bH h
 ·rw[aat bH];refine(Zu hp τ ar).mono λe w'⟨v,he,J,h⟩=>⟨v,he,?_⟩;rcases h with⟨h,_⟩|⟨_,az⟩
  ·exact absurd h bH
  ·exact⟨_,az,fV.zero w',J⟩
theorem asQ{n:Int}(h:0<=n/\n<4294967296):bB.num (bB.be 4 n)=n:=by simp[bB.be,bB.num];omega
theorem VD(H:gZ)(t:aq)(a:Nat)(l:Nat)(h1:1<=l)(cK:l<=4)(aR:a+l<=17):dz (oC H t) a l=bB.num (((s3 H t).drop a).take l):=by
 have ak:=I0 H t;have zM:((oC H t).take 60).length=60:=by unfold oC;rw[hs,y5 (by omega)];rfl
 unfold dz;rw[(bB.U1 (by omega) (by omega) (n:=((oC H t).take 60).length) rfl (by omega) (by omega)).1];unfold oC;rw[ch,ch,M3 (by omega) a l (by omega)]
theorem apw{H:gZ}(t:aq)(h:0<=H.q/\H.q<4294967296):dz (oC H t) 4 4=H.q:=by
 have:=VD H t 4 4 (by omega) (by omega) (by omega)
 have aH:=asQ h;obtain⟨a,b,c,d,he⟩:=KW H.q;rw[he]at aH;have e:((s3 H t).drop 4).take 4=[a,b,c,d]:=by unfold s3 Df zR mQ;rw[he];simp[mh]
 rw[e,aH]at this;exact this
theorem apx(H:gZ)(t:aq):dz (oC H t) 8 1=H.s:=by
 have:=VD H t 8 1 (by omega) (by omega) (by omega)
 obtain⟨a,b,c,d,he⟩:=KW H.q;have e:((s3 H t).drop 8).take 1=[H.s]:=by unfold s3 Df zR mQ;rw[he];simp[mh]
 rw[e]at this;simpa[bB.num]using this
theorem apu(H:gZ)(t:aq):dz (oC H t) 9 1=H.k:=by
 have:=VD H t 9 1 (by omega) (by omega) (by omega)
 obtain⟨a,b,c,d,he⟩:=KW H.q;have e:((s3 H t).drop 9).take 1=[H.k]:=by unfold s3 Df zR mQ;rw[he];simp[mh]
 rw[e]at this;simpa[bB.num]using this
theorem arR{s k q:Int}{R:bZ}(aH:vV q)(kE:mN s k R)(aG:∀e∈R,mG e)(dD:R.length=8):
  Good (jg s k q (fg k R))/\pz (jg s k q (fg k R))=R/\oM (jg s k q (fg k R))=s/\lH (jg s k q (fg k R))=k/\uI (jg s k q (fg k R))=q:=by
 obtain⟨cM,fC⟩:=auu kE aG dD;have Ql:=JB dD kE.1.2.1 k;have τ:=WV aH kE aG dD;generalize aS:fg k R=t at cM fC Ql τ⊢;have ea:zQ (jg s k q t)=oC (zS s k q t) t:=rfl;have Ge:(jg s k q t).tail=th q t (List.range (cF.fW t.length)):=rfl;have es:oM (jg s k q t)=s:=by unfold oM;rw[ea,apx];rfl
 have C2:lH (jg s k q t)=k:=by unfold lH;rw[ea,apu];rfl
 have eq:uI (jg s k q t)=q:=by unfold uI;rw[ea,apw t ⟨by have:=aH.1;show 0<=q;omega,by have:=aH.2;show q<_;omega⟩];rfl
 have Lj:dz (oC (zS s k q t) t) 10 1=(cF.fW t.length:Int):=apt _ _;have sb:D9 (jg s k q t)=t:=by unfold D9;rw[Ge];exact asg _ _
 have UF:pz (jg s k q t)=R:=by unfold pz;rw[C2,sb];exact fC
 have hlen:=LS s k q t;have acT:cF.fW t.length<=11:=by unfold cF.fW;omega
 have z1:∀bw∈jg s k q t,oK bw=0:=λbw h=>by
  unfold jg at h;rcases fB.1 h with rfl|h
  ·exact(afd (by rw[I0];omega)).1
  ·unfold th at h;obtain⟨i,I,rfl⟩:=Rz.1 h
   have:=TT t (List.range (cF.fW t.length))[i]
   exact(afd (by rw[QJ];omega)).1
 refine⟨⟨by rw[hlen];omega,by rw[hlen];omega,?_,by rw[ea,Lj,hlen];omega,λbw h=>?_,by rw[C2,sb];exact cM,by rw[es,C2,UF];exact kE,by rw[es,C2,eq,UF,aS]⟩,UF,es,C2,eq⟩
 ·rw[ea];have lE:Dd (oC (zS s k q t) t):=⟨z1 _ (oj ..),apv _ _⟩;have jE:dz (oC (zS s k q t) t) 4 4=q:=eq;unfold nE;rw[bI lE,jE,Lj,bI aH.1,bI aH.2,bI (show(cF.fW t.length:Int)<12 by omega)];rfl
 ·unfold DA;rw[bI (z1 bw (X2 h))];rw[Ge]at h;rw[bI (asf bw h)];rfl
end Go.Proofs.YtcpdfhkhaekekaaGreat.G.cF
namespace Go.Proofs.YtcpdfhkhaekekaaGreat.G.cS
open Go.bJ Go.RowKit cF
def xt(d:ba.du)(at_:Nat):List aq:=match d.now[at_]?with
 |none=>[]
 |some s=>if nE s=true/\(dz s 4 4%2)*12=(at_:Int)then(d.now.drop at_).take (1+(dz s 10 1).toNat)else[]
theorem XJ{d:ba.du}{at_:Nat}{s:aq}(h:d.now[at_]?=some s):xt d at_=if nE s=true/\(dz s 4 4%2)*12=(at_:Int)then(d.now.drop at_).take (1+(dz s 10 1).toNat)else[]:=by unfold xt;rw[h]
theorem atK{d:ba.du}(bH:ba.Good d)(at_:Nat):∀bw∈xt d at_,Bytes bw:=λbw h=>by
 have key:bw∈d.now:=by
  unfold xt at h;split at h
  ·cases h
  ·split at h
   ·exact JO (xy h)
   ·cases h
 exact(bH.now bw key).2
theorem apB{s:aq}(h:nE s=true):dz s 10 1<12:=by unfold nE at h;simp only[lf,qI]at h;exact h.2
theorem drop_take{l:List aq}{a j:Nat}{s:aq}(h:l[a+j]?=some s):(l.drop a).take (j+1)=(l.drop a).take j++[s]:=by rw[Ry,List.getElem?_drop,h];rfl
structure zo(w:World)(d:ba.du)(at_ B:Nat)(p:γ)(n c j:Nat)(W:World):Prop where
 ex:η w W
 num:n=j
 row:∃rs,μ W B hj 1 p n c rs/\j8 W 0 rs ((d.now.drop at_).take j)
theorem zo.Ra{w:World}{d:ba.du}{at_ B:Nat}{p:γ}{n c j:Nat}{W:World}(h:zo w d at_ B p n c j W):r0 W p n c ((d.now.drop at_).take j):=by obtain⟨_,_,rs,o,g⟩:=h;exact g.Ra o
theorem zo.first{w W:World}{d:ba.du}{at_:Nat}{p:γ}{c B:Nat}{s:aq}(J:η w W)(o:μ W B dt 1 p 64 c (a7 s))(ab:d.now[at_]?=some s){N:Nat->al}
  (K:∀b w',w.heap.size<=b->zo w d at_ w.heap.size (some ⟨b,0,none⟩) 1 1 1 w'->N b w'):aK W #[.slice p 64 c] hj N:=by
 rintro b w' rfl rfl;have σ:=μ.new (w:=W) [.slice p 64 c] hj;have θ:=η.alloc W (.cells [Value.slice p 64 c].toArray hj);have hw:=J.size;refine K _ _ hw ⟨J.trans θ,rfl,[.slice p 64 c],σ.lower hw,?_⟩;have e:(d.now.drop at_).take 1=[]++[s]:=by
  have:=drop_take (l:=d.now) (a:=at_) (j:=0) (s:=s) ab
  simpa using this
 rw[e];exact(j8.nil _ _).snoc ((o.lower (eR _)).ex θ)
theorem zo.next{w W bq:World}{d:ba.du}{at_:Nat}{p:γ}{n c j:Nat}(h:zo w d at_ w.heap.size p n c j W)(J:η W bq){q:γ}{e B:Nat}{s:aq}(o:μ bq B dt 1 q 64 e (a7 s))(ab:d.now[at_+j]?=some s)(ψ:j<=1000){N:γ->Nat->al}
  (K:∀b5 aW w',zo w d at_ w.heap.size b5 (n+1) aW (j+1) w'->N b5 aW w'):
  aK bq #[.slice q 64 e] hj λζ c4=>ho c4 p n c 1 (bd c4 (some ⟨ζ,0,none⟩)) hj 1 24 #[(Value.slice none 0 0)] λbj bP cd=>N bj bP cd:=by
 obtain⟨hex,rfl,rs,ato,mE⟩:=h;rintro b w' rfl rfl;have σ:=μ.new (w:=bq) [.slice q 64 e] hj;have θ:=η.alloc bq (.cells [Value.slice q 64 e].toArray hj);generalize bq.alloc (.cells #[.slice q 64 e] hj)=c4 at σ θ⊢;have nv:=J.trans θ;have ak:=ato.ex nv;have Qy:=hex.trans nv;refine mx (B:=w.heap.size) ak Qy.size [.slice q 64 e] σ.cells rfl agv rfl (by omega) (by omega) ?_;intro bj bP cd tk yz;have jQ:∀i,(∃y,p=some y/\y.block=i)->Typed c4 hj i:=λi⟨y,e,I⟩=>I▸(ak.typed e).1;refine K bj bP cd ⟨Qy.then yz λi⟨y,e,I⟩=>by have:=(ak.ge e).1;omega,rfl,rs++[.slice q 64 e],tk,?_⟩;rw[drop_take ab];exact((mE.ex nv).cV yz hj jQ (by decide)).snoc (((o.lower (eR _)).ex θ).cV yz hj jQ (by decide))
theorem TI{q:Int}(h:0<=q/\q<=4294967296)(w:World):Hs.C q w (ω λv w'=>v=.int .i64 ((q%2)*12)/\w'=w):=by apply Hs.ok;unfold Hs.main;refine ω.mk ⟨?_,rfl⟩;rw[xD h.1,bS (x:=q%2*12) (by omega) (by omega),bS (by omega) (by omega),Int.zero_add]
structure Live(w:World)(B pd:Nat)(d:ba.du)(D:bl):Prop where
 dev:ba.hF w B pd d D
 fz:ba.Good d
 off:d.off=false
 len:40<=d.now.length
theorem Live.ex{w w':World}{B pd:Nat}{d:ba.du}{D:bl}(h:Live w B pd d D)(x:η w w'):Live w' B pd d D:=⟨h.dev.ex x,h.fz,h.off,h.len⟩
theorem Live.get{w:World}{B pd:Nat}{d:ba.du}{D:bl}(h:Live w B pd d D){i:Int}{i':Nat}(I:i=i')(zM:i'<40):CT.C (some ⟨pd,0,none⟩) i w (ω λv w'=>∃p c s,d.now[i']?=some s/\v=.tuple #[.slice p 64 c,.int .i64 0]/\μ w' w.heap.size dt 1 p 64 c (a7 s)/\η w w'):=by
 subst I;refine(ba.zn h.dev h.fz (i':Int)).mono λe w'⟨v,he,J,φ⟩=>⟨v,he,?_⟩;have aF:ba.uk d (i':Int)=0:=by unfold ba.uk;rw[h.off,aL (by decide),aL (by have:=h.len;omega)]
 rcases φ with⟨ar,_⟩|⟨_,p,c,s,ab,rfl,o⟩
 ·exact absurd aF ar
 ·exact⟨p,c,s,by simpa using ab,rfl,o,J⟩
theorem atz{w:World}{B pd:Nat}{d:ba.du}{D:bl}(h:Live w B pd d D){at_:Nat}(lF:at_<=12):uR.C (some ⟨pd,0,none⟩) at_ w (ω λv w'=>∃p n c,v=.tuple #[.slice p n c,.int .i64 0]/\r0 w' p n c (xt d at_)/\n<=100/\η w w'):=by
 apply uR.ok;unfold uR.main;refine κ.use (h.get rfl (by omega)) ?_;rintro _ ε ⟨ae,c1,s,ab,rfl,σ,θ⟩
 try dsimp only[ca,cT,cU,bo,bL,ee]
 rw[cond_neg (by rfl)];have mU:=h.fz.now s (fa ab);refine κ.use (aj1 ae 64 c1 s ε σ.cells mU.1 σ.2.1 mU.2) ?_;rintro _ χ ⟨rfl,ad⟩;have gb:=θ.trans ad;have IG:=XJ ab;have none_:∀{w':World},η w w'->xt d at_=[]->ω (λv w'=>∃p n c,v=.tuple #[.slice p n c,.int .i64 0]/\r0 w' p n c (xt d at_)/\n<=100/\η w w') (.returned (.tuple #[.slice none 0 0,.int .i64 0])) w':=λJ he=>by refine ω.mk ⟨none,0,0,rfl,?_,by omega,J⟩;rw[he];exact⟨rfl,dO _,[],rfl,rfl,λi bw I=>by simp at I⟩
 unfold TZ;cases dJ:nE s with
 |false=>
  rw[dJ,aL (λh=>by cases h.1)]at IG
  try dsimp only[ca]
  have e:(bB.v64 (if false=true then[dz s 10 1,dz s 4 4,0]else[0,0,11])).toArray=#[.int .i64 0,.int .i64 0,.int .i64 11]:=rfl;rw[e]
  try dsimp only[cT,cU,n1,bo,bL]
  rw[cond_pos (by rfl)];exact none_ gb IG
 |true=>
  obtain⟨Qp,lE⟩:=ac1 dJ;have azq:=apB dJ;have LR:=ab5 mU.2 10;have e:(bB.v64 (if true=true then[dz s 10 1,dz s 4 4,0]else[0,0,11])).toArray=#[.int .i64 (dz s 10 1),.int .i64 (dz s 4 4),.int .i64 0]:=rfl;rw[e]
  try dsimp only[ca,cT,cU,n1,bo,bL]
  rw[cond_neg (by rfl)];refine κ.use (TI (q:=dz s 4 4) ⟨by have:=Qp.1;omega,by have:=Qp.2;omega⟩ χ) ?_;rintro _ an ⟨rfl,iJ⟩;obtain rfl:=iJ.symm
  try dsimp only[bL]
  refine bt (λb1=>?_) (λb1=>?_)
  ·have b1:¬(dz s 4 4%2)*12=(at_:Int):=by simpa using b1
   rw[aL (λh=>b1 h.2)]at IG;exact none_ gb IG
  have b1:(dz s 4 4%2)*12=(at_:Int):=by simpa using b1
  rw[dJ,aN ⟨rfl,b1⟩]at IG;refine zo.first gb (σ.ex ad) ab λδ a8 eL rp=>?_;unfold uR.bb;refine⟨λt0 t1 fH fq fQ t39 t40 W=>t0=some ⟨pd,0,none⟩/\(at_:Int)=t1/\dz s 10 1=t39/\0<=t40/\t40<=dz s 10 1/\zo w d at_ w.heap.size fH fq fQ (1+t40.toNat) W,λt0 t1 fH fq fQ t39 t40 W=>(dz s 10 1-t40).toNat,⟨rfl,rfl,rfl,by omega,by omega,rp⟩,?_⟩;rintro _ _ fH fq fQ _ t40 W ⟨rfl,rfl,rfl,i0,i1,rp⟩;unfold uR.δ;obtain⟨j,rfl⟩:=eF i0;rw[ch]at rp;refine bt (λπ=>?_) (λπ=>?_)
  ·have π:=b6 π;rw[bS (x:=(at_:Int)+1) (by omega) (by omega),bS (x:=(at_:Int)+1+j) (by omega) (by omega)];refine κ.use ((h.ex rp.ex).get (i:=(at_:Int)+1+j) (i':=at_+(1+j)) (by omega) (by omega)) ?_;rintro _ bV ⟨aX,c2,s2,Mk,rfl,e4,cj⟩
   try dsimp only[ca,cT,cU,bo,bL,ee]
   rw[cond_neg (by rfl)];refine zo.next rp cj e4 Mk (by omega) λb5 aW w' pY=>?_;have l2:IntKind.i64.wrap ((j:Int)+1)=((j+1:Nat):Int):=by rw[bS (by omega) (by omega)];rfl
   rw[l2];exact⟨⟨rfl,rfl,rfl,by omega,by omega,pY⟩,by((try dsimp only);omega)⟩
  ·have π:=dn π;have ψ:j=(dz s 10 1).toNat:=by omega
   subst ψ;have hp:=rp.Ra;rw[<-IG]at hp;refine ω.mk ⟨fH,fq,fQ,rfl,hp,?_,rp.ex⟩
   have:=rp.num
   omega
abbrev Acc:=bZ×Int×Int×Int
def TF:Acc:=(cH [],0,0,0)
def Cv(c:Acc)(a:OO):Acc:=if a.2.2.2.2=0/\c.2.2.2<a.2.2.2.1 then(a.1,a.2.1,a.2.2.1,a.2.2.2.1)else c
noncomputable def wN(d:ba.du):Nat->Acc
 |0=>TF
 |i+1=>Cv (wN d i) (Bb (xt d (12*i)))
structure Kept(w:World)(δ ζ:Nat)(c:Acc)(W:World):Prop where
 ex:η w W
 aAe:w.heap.size<=δ
 aAf:w.heap.size<=ζ
 ne:True
 row:∃ps,μ W 0 b3 24 (some ⟨δ,0,none⟩) 1 1 (bT c.1 ps)/\fV W c.1 ps
 xu:μ W 0 b2 2 (some ⟨ζ,0,none⟩) 1 1 (two c.2.1 c.2.2.1)
theorem Kept.more{w W bq:World}{δ ζ:Nat}{c:Acc}(h:Kept w δ ζ c W)(x:η W bq):Kept w δ ζ c bq:=by obtain⟨h1,ι,aJ,_,⟨ps,cK,dx⟩,h8⟩:=h;exact⟨h1.trans x,ι,aJ,trivial,⟨ps,cK.ex x,dx.ex x⟩,h8.ex x⟩
theorem Kept.step{w W:World}{δ ζ:Nat}{c:Acc}(h:Kept w δ ζ c W){a:OO}{ps:aY}(cb:fV W a.1 ps){t:Int}(aS:t=c.2.2.2){N:Int->al}
  (K:∀bq h4,h4=(Cv c a).2.2.2->Kept w δ ζ (Cv c a) bq->Kp W bq (λi=>i=δ\/i=ζ\/W.heap.size<=i)->N h4 bq):
  aK W hX.toArray b3 λdR eE=>
  aK eE #[(Value.int .i64 0),(Value.int .i64 0)] b2 λgu ey=>
  ν (decide ((bT a.1 ps).toArray.size=24)) (
   a6 ey (⟨dR,0,none⟩:Addr) (bT a.1 ps)/\∀dM,dM=ey.setCells (⟨dR,0,none⟩:Addr).block (⟨dR,0,none⟩:Addr).off (bT a.1 ps)->
   (ν (decide ((two a.2.1 a.2.2.1).toArray.size=2)) (
     a6 dM (⟨gu,0,none⟩:Addr) (two a.2.1 a.2.2.1)/\∀eg,eg=dM.setCells (⟨gu,0,none⟩:Addr).block (⟨gu,0,none⟩:Addr).off (two a.2.1 a.2.2.1)->
     (cond (a.2.2.2.2==0) (
      cond (decide (a.2.2.2.1>t)) (
       ∃(b0:aj),b0.size=24/\aB eg.drew (⟨dR,0,none⟩:Addr) b0.toList/\
       (∃(dr:aj),dr.size=2/\aB eg.drew (⟨gu,0,none⟩:Addr) dr.toList/\
        (ν (decide (b0.size=24)) (
         a6 eg.drew (⟨δ,0,none⟩:Addr) b0.toList/\∀gr,gr=eg.drew.setCells (⟨δ,0,none⟩:Addr).block (⟨δ,0,none⟩:Addr).off b0.toList->
         (ν (decide (dr.size=2)) (
         aB gr (⟨gu,0,none⟩:Addr) dr.toList/\
         (ν (decide (dr.size=2)) (
         a6 gr (⟨ζ,0,none⟩:Addr) dr.toList/\∀eP,eP=gr.setCells (⟨ζ,0,none⟩:Addr).block (⟨ζ,0,none⟩:Addr).off dr.toList->
         N a.2.2.2.1 eP))))))))
       (N t eg))
      (N t eg))))):=by
 subst aS;rintro dR eE rfl rfl gu ey rfl rfl;rw[Ie];have bY:=μ.new (w:=W) hX b3;have q0:=η.alloc W (.cells hX.toArray b3);have w4:W.heap.size<=W.heap.size:=dO _;generalize azm:W.heap.size=dR at bY w4⊢;have w4:W.heap.size<=dR:=by omega
 generalize W.alloc (.cells hX.toArray b3)=eE at bY q0⊢;have eN:=μ.new (w:=eE) (two 0 0) b2;have pH:=η.alloc eE (.cells (two 0 0).toArray b2);have Bv:=q0.size;generalize eE.heap.size=gu at eN Bv⊢;generalize eE.alloc (.cells (two 0 0).toArray b2)=ey at eN pH⊢;have bY:=bY.ex pH;have gD:=cb.at.eA;refine bU (bI (by rw[fP];exact gD)) ?_;have t6:∀i,i=dR->Typed ey b3 i:=λi I=>by rw[I];exact(bY.typed rfl).1
 refine bY.put (cs:=bT a.1 ps) gD cb.at.one λdM pn j2=>?_;have eN:=eN.cV pn b3 t6 (by decide);refine bU (by rfl) ?_;have t7:∀i,i=gu->Typed dM b2 i:=λi I=>by rw[I];exact(eN.typed rfl).1
 refine eN.put (cs:=two a.2.1 a.2.2.1) (by rfl) nP λeg yC BV=>?_;have j2:=j2.cV yC b2 t7 (by decide);have oU:η W eg:=((q0.trans pH).then pn λi I=>by omega).then yC λi I=>by omega
 have PT:=h.more oU;have dS:¬(a.2.2.2.2=0/\c.2.2.2<a.2.2.2.1)->N c.2.2.2 eg:=λar=>by
  have e:Cv c a=c:=by unfold Cv;rw[aL ar]
  refine K eg _ (by rw[e]) (by rw[e];exact PT) (oU.mono λi _ h=>h.elim)
 refine bt (λhe=>?_) (λhe=>?_)
 ·have he:a.2.2.2.2=0:=by simpa using he
  refine bt (λaH=>?_) (λaH=>?_)
  ·have aH:c.2.2.2<a.2.2.2.1:=by simpa using aH
   have e:Cv c a=(a.1,a.2.1,a.2.2.1,a.2.2.2.1):=by unfold Cv;rw[aN ⟨he,aH⟩]
   have d:=η.drew eg;obtain⟨J,bb,eZ,_,⟨qs,g1,g2⟩,g3⟩:=PT.more d;have adN:=(cb.ex oU).ex d;have asS:=j2.ex d;have aeQ:=BV.ex d;refine⟨(bT a.1 ps).toArray,by rw[fP];exact gD,asS.cells,(two a.2.1 a.2.2.1).toArray,rfl,aeQ.cells,bU (bI (by rw[fP];exact gD)) ?_⟩;have t1:∀i,i=δ->Typed eg.drew b3 i:=λi I=>by rw[I];exact(g1.typed rfl).1
   refine g1.put (cs:=bT a.1 ps) gD adN.at.one λgr yD uA=>?_;have asT:=aeQ.cV yD b3 t1 (by decide);have g3:=g3.cV yD b3 t1 (by decide);refine bU (by rfl) ⟨asT.cells,bU (by rfl) ?_⟩;have t2:∀i,i=ζ->Typed gr b2 i:=λi I=>by rw[I];exact(g3.typed rfl).1
   refine g3.put (cs:=two a.2.1 a.2.2.1) (by rfl) nP λeP xg DH=>?_;refine K eP _ (by rw[e]) ?_ ?_
   ·rw[e];exact⟨(J.then yD λi I=>by omega).then xg λi I=>by omega,bb,eZ,trivial,⟨ps,uA.cV xg b2 t2 (by decide),(adN.cV yD b3 t1 (by decide)).cV xg b2 t2 (by decide)⟩,DH⟩
   ·refine Kp.trans ((oU.trans d).aO _) (Kp.trans yD xg (U:=λi=>i=δ\/i=ζ\/W.heap.size<=i) (λi _ I=>.inl I) (λi _ I=>.inr (.inl I))) (λ_ _ h=>h) (λ_ _ h=>h)
  ·have aH:¬c.2.2.2<a.2.2.2.1:=by simpa using aH
   exact dS λh=>aH h.2
 ·have he:¬a.2.2.2.2=0:=by simpa using he
  exact dS λh=>he h.1
def ZL(w:World)(pd δ ζ:Nat)(d:ba.du)(t0:γ)(t2 t3:Nat)(t4 t17:Int)(W:World):Prop:=
 t0=some ⟨pd,0,none⟩/\δ=t2/\ζ=t3/\0<=t17/\t17<=2/\t4=(wN d t17.toNat).2.2.2/\Kept w δ ζ (wN d t17.toNat) W
def Th(c:Acc)(w:World)(v:Value)(w':World):Prop:=
 (∃ps,v=.tuple #[.agg (bT c.1 ps).toArray,.agg (two c.2.1 c.2.2.1).toArray,.int .i64 c.2.2.2,.int .i64 (if c.2.2.2=0 then 11 else 0)]/\fV w' c.1 ps)/\η w w'
theorem Kept.out{w W:World}{δ ζ:Nat}{c:Acc}(h:Kept w δ ζ c W){N:aj->aj->al}(K:∀ps w',η w w'->fV w' c.1 ps->N (bT c.1 ps).toArray (two c.2.1 c.2.2.1).toArray w'):
  ∃(iG:aj),iG.size=24/\aB W.drew (⟨δ,0,none⟩:Addr) iG.toList/\
  (∃(iH:aj),iH.size=2/\aB W.drew (⟨ζ,0,none⟩:Addr) iH.toList/\
   (ν (decide (iG.size=24)) (
    a6 W.drew (⟨δ,0,none⟩:Addr) iG.toList/\∀dM,dM=W.drew.setCells (⟨δ,0,none⟩:Addr).block (⟨δ,0,none⟩:Addr).off iG.toList->
    (ν (decide (iH.size=2)) (
     aB dM (⟨ζ,0,none⟩:Addr) iH.toList/\
     (ν (decide (iH.size=2)) (
      a6 dM (⟨ζ,0,none⟩:Addr) iH.toList/\∀eg,eg=dM.setCells (⟨ζ,0,none⟩:Addr).block (⟨ζ,0,none⟩:Addr).off iH.toList->
      (∃(kQ:aj),kQ.size=24/\aB eg (⟨δ,0,none⟩:Addr) kQ.toList/\
       (∃(kR:aj),kR.size=2/\aB eg (⟨ζ,0,none⟩:Addr) kR.toList/\
        N kQ kR eg))))))))):=by
 obtain⟨J,bb,eZ,_,⟨ps,g1,g2⟩,g3⟩:=h.more (η.drew W);have gD:=g2.at.eA;refine⟨(bT c.1 ps).toArray,by rw[fP];exact gD,g1.cells,(two c.2.1 c.2.2.1).toArray,rfl,g3.cells,bU (bI (by rw[fP];exact gD)) ?_⟩;have t1:∀i,i=δ->Typed W.drew b3 i:=λi I=>by rw[I];exact(g1.typed rfl).1
 refine g1.put (cs:=bT c.1 ps) gD g2.at.one λχ b4 bh=>?_;have C7:=g3.cV b4 b3 t1 (by decide);refine bU (by rfl) ⟨C7.cells,bU (by rfl) ?_⟩;have t2:∀i,i=ζ->Typed χ b2 i:=λi I=>by rw[I];exact(C7.typed rfl).1
 refine C7.put (cs:=two c.2.1 c.2.2.1) (by rfl) nP λao cI cJ=>?_;exact⟨(bT c.1 ps).toArray,by rw[fP];exact gD,(bh.cV cI b2 t2 (by decide)).cells,(two c.2.1 c.2.2.1).toArray,rfl,cJ.cells,K ps ao ((J.then b4 λi I=>by omega).then cI λi I=>by omega) ((g2.cV b4 b3 t1 (by decide)).cV cI b2 t2 (by decide))⟩
theorem Kept.first{w:World}{N:Nat->Nat->al}(K:∀δ ζ W,w.heap.size<=δ->Kept w δ ζ TF W->N δ ζ W):aK w hX.toArray b3 λδ ε=>aK ε #[(Value.int .i64 0),(Value.int .i64 0)] b2 λζ υ=>N δ ζ υ:=by
 rintro δ ε rfl rfl ζ υ rfl rfl;rw[Ie];have σ:=(μ.new (w:=w) hX b3).lower (eR _);have θ:=η.alloc w (.cells hX.toArray b3);have eL:w.heap.size<=w.heap.size:=dO _;generalize Vl:w.heap.size=δ at σ eL⊢;have eL:w.heap.size<=δ:=by omega
 generalize w.alloc (.cells hX.toArray b3)=ε at σ θ⊢;have af:=(μ.new (w:=ε) (two 0 0) b2).lower (eR _);have ρ:=η.alloc ε (.cells (two 0 0).toArray b2);have eG:w.heap.size<=ε.heap.size:=θ.size;generalize ε.heap.size=ζ at af eG⊢;generalize ε.alloc (.cells (two 0 0).toArray b2)=υ at af ρ⊢;exact K δ ζ υ (by omega) ⟨θ.trans ρ,eL,eG,trivial,⟨_,σ.ex ρ,fV.zero _⟩,af⟩
theorem Ti{w:World}{B pd:Nat}{d:ba.du}{D:bl}(h:Live w B pd d D):qn.C (some ⟨pd,0,none⟩) w (ω (Th (wN d 2) w)):=by
 apply qn.ok;unfold qn.main;refine Kept.first (N:=λδ ζ W=>cond _ _ (qn.bb _ δ ζ 0 0 W _)) λδ ζ υ _ hk=>?_;rw[cond_neg (by rfl)];unfold qn.bb;refine⟨ZL w pd δ ζ d,λt0 t2 t3 t4 t17 W=>(2-t17).toNat,⟨rfl,rfl,rfl,by omega,by omega,rfl,hk⟩,?_⟩;clear hk;rintro _ _ _ _ t17 W ⟨rfl,rfl,rfl,i0,i1,rfl,hk⟩;unfold qn.δ;obtain⟨i,rfl⟩:=eF i0;rw[ch]at hk⊢;refine bt (λπ=>?_) (λπ=>?_)
 ·have π:=b6 π;refine κ.use (TI (q:=(i:Int)) ⟨by omega,by omega⟩ W) ?_;rintro _ an ⟨rfl,iJ⟩;obtain rfl:=iJ.symm
  try dsimp only[bL]
  have Fu:(i:Int)%2*12=((12*i:Nat):Int):=by omega
  rw[Fu];refine κ.use (atz (h.ex hk.ex) (at_:=12*i) (by omega)) ?_;rintro _ a8 ⟨p,n,c,rfl,hp,ar,aU⟩
  try dsimp only[ca,cT,cU,bo,bL,ee]
  rw[cond_neg (by rfl)];refine κ.use (am1 (atK h.fz _) (by omega) hp) ?_;rintro _ cd ⟨ps,rfl,cb,eW⟩
  try dsimp only[ca,cT,cU,n1,UX,bo,bL,hA,h7]
  refine Kept.step (hk.more (aU.trans eW)) cb rfl (N:=λh4 bq=>ZL w pd δ ζ d (some ⟨pd,0,none⟩) δ ζ h4 (IntKind.i64.wrap ((i:Int)+1)) bq/\(2-IntKind.i64.wrap ((i:Int)+1)).toNat<(2-(i:Int)).toNat) λbq h4 aS pc _=>?_;have l2:IntKind.i64.wrap ((i:Int)+1)=((i+1:Nat):Int):=by rw[bS (by omega) (by omega)];rfl
  rw[l2];exact⟨⟨rfl,rfl,rfl,by omega,by omega,aS,pc⟩,by((try dsimp only);omega)⟩
 ·have π:=dn π;obtain rfl:i=2:=by omega
  unfold qn.aV;refine bt (λaF=>?_) (λaF=>?_)
  ·have aF:(wN d 2).2.2.2=0:=by simpa using aF
   refine hk.out (N:=λa b W=>ω (Th (wN d 2) w) (.returned (.tuple #[.agg a,.agg b,.int .i64 0,.int .i64 11])) W) λps w' x st=>ω.mk ⟨⟨ps,?_,st⟩,x⟩;rw[aF,aN rfl]
  ·have aF:¬(wN d 2).2.2.2=0:=by simpa using aF
   refine hk.out (N:=λa b W=>ω (Th (wN d 2) w) (.returned (.tuple #[.agg a,.agg b,.int .i64 (wN d 2).2.2.2,.int .i64 0])) W) λps w' x st=>ω.mk ⟨⟨ps,?_,st⟩,x⟩;rw[aL aF]
open Tryz
def lC(d:ba.du):ba.du:={d with sure:=d.now,loose:=[]}
def nM(d:ba.du)(i:Int):List aq->ba.du
 |[]=>d
 |x::r=>nM (ba.dv d i x) (i+1) r
def q8(q:Int):Int:=q%2*12
def wb(d:ba.du)(s k q:Int)(R:bZ):ba.du:=
 lC (ba.dv (lC (nM d (q8 q+1) (jg s k q (fg k R)).tail)) (q8 q) ((jg s k q (fg k R)).headD []))
theorem XS(x:aq):∀(l:List aq)(d:ba.du)(i:Int),nM d i (l++[x])=ba.dv (nM d i l) (i+l.length) x
 |[],d,i=>by show ba.dv d i x=_;simp[nM]
 |y::l,d,i=>by show nM (ba.dv d i y) (i+1) (l++[x])=ba.dv (nM (ba.dv d i y) (i+1) l) _ x;rw[XS x l];congr 1;simp only[kU];omega
structure hG(w0:World)(eC:bl)(w:World)(B pd:Nat)(d:ba.du)(D:bl)(k:Nat):Prop where
 dev:ba.hF w B pd d D
 fz:ba.Good d
 off:d.off=false
 after:d.after=-1
 len:40<=d.now.length
 gC:d.loose.length<=k
 low:B<=w0.heap.size
 aO:Kp w0 w eC
 sub:∀i,D i->eC i\/w0.heap.size<=i
theorem hG.start{w:World}{B pd:Nat}{d:ba.du}{D:bl}{k:Nat}(h:ba.hF w B pd d D)(bH:ba.Good d)(aG:d.off=false)(aR:d.after=-1)(ak:40<=d.now.length)(bm:d.loose.length<=k)(eh:B<=w.heap.size):hG w D w B pd d D k:=
 ⟨h,bH,aG,aR,ak,bm,eh,Kp.refl _ _,λi h=>.inl h⟩
theorem hG.ex{w0 w w':World}{eC:bl}{B pd:Nat}{d:ba.du}{D:bl}{k:Nat}(h:hG w0 eC w B pd d D k)(x:η w w'):hG w0 eC w' B pd d D k:=
 ⟨h.dev.ex x,h.fz,h.off,h.after,h.len,h.gC,h.low,h.aO.gL (x.aO _),h.sub⟩
theorem hG.done{w0 w:World}{eC:bl}{B pd:Nat}{d:ba.du}{D:bl}{k:Nat}(h:hG w0 eC w B pd d D k):ba.Ep w0 B pd d eC w:=⟨D,h.dev,h.fz,h.aO,h.sub⟩
theorem hG.live{w0 w:World}{eC:bl}{B pd:Nat}{d:ba.du}{D:bl}{k:Nat}(h:hG w0 eC w B pd d D k):Live w B pd d D:=⟨h.dev,h.fz,h.off,h.len⟩
theorem hG.dS{w0 w w':World}{eC:bl}{B pd:Nat}{d:ba.du}{D:bl}{k:Nat}(h:hG w0 eC w B pd d D k)(aO:Kp w w' D){B':Nat}{e:TypeId}{sz:Nat}{p:γ}{n c:Nat}{xs:aY}(o:μ w B' e sz p n c xs)(h1:e≠Sx)(ι:e≠Sy)(aJ:e≠Sz):μ w' B' e sz p n c xs:=
 ba.MU h.dev aO o h1 ι aJ
theorem hG.TG{w0 w w':World}{eC:bl}{B pd:Nat}{d d':ba.du}{D:bl}{k k':Nat}(h:hG w0 eC w B pd d D k)(a:ba.Ep w B pd d' D w')(aG:d'.off=d.off)(aR:d'.after=d.after)(ak:d'.now.length=d.now.length)(bm:d'.loose.length<=k'):∃bk,hG w0 eC w' B pd d' bk k'/\Kp w w' D:=by
 obtain⟨bk,h1,ι,aJ,cK⟩:=a;refine⟨bk,⟨h1,ι,aG.trans h.off,aR.trans h.after,by rw[ak];exact h.len,bm,h.low,Kp.trans h.aO aJ (λ_ _ h=>h) (λi I ah=>?_),λi I=>?_⟩,aJ⟩
 ·rcases h.sub i ah with h|h
  ·exact h
  ·omega
 ·rcases cK i I with e2|e2
  ·exact h.sub i e2
  ·exact .inr (gE h.aO.size e2)
theorem hG.put{w0 w:World}{eC:bl}{B pd:Nat}{d:ba.du}{D:bl}{k:Nat}(h:hG w0 eC w B pd d D k)(hk:k<=90000000){i:Int}(I:0<=i/\i<(d.now.length:Int)){p:γ}{c:Nat}{s:aq}(π:ba.ou w D p (a7 s))(ab:ba.lx s){N:Value->al}{X:List PanicEntry->al}
  (K:∀w' bk,hG w0 eC w' B pd (ba.dv d i s) bk (k+1)->Kp w w' D->N (.int .i64 0) w'):
  aK w #[.int .i64 i,.slice p 64 c] Eb λδ χ=>κ prog 63 #[.pointer (some ⟨pd,0,none⟩),.slice (some ⟨δ,0,none⟩) 1 1] χ N X:=by
 rintro b ε rfl rfl;have o:=μ.new (w:=w) [.int .i64 i,.slice p 64 c] Eb;have x:=η.alloc w (.cells [Value.int .i64 i,.slice p 64 c].toArray Eb);generalize w.heap.size=b at o⊢;generalize w.alloc (.cells #[.int .i64 i,.slice p 64 c] Eb)=ε at o x⊢;have h1:=h.ex x;refine κ.use (ba.KL h1.dev h1.fz (gE h1.low h1.aO.size) (ws:=[⟨i,s,p,64,c⟩]) rfl (ba.ou.DI h1.dev o (by decide) (by decide) (by decide)) (λtK mX=>by simp only[ma]at mX;subst mX;exact⟨π.step (x.aO _) (λi _ h=>h),ab.1,ab.2⟩) (by omega) (by have:=h1.gC;omega)) ?_
 have vJ:ba.A4 d ([(⟨i,s,p,64,c⟩:ba.iv)].map ba.iv.plain)=(ba.dv d i s,0):=ba.at7 h1.after h1.off I ab.1;rw[vJ];rintro _ υ ⟨rfl,aR⟩;obtain⟨bk,cn,p5⟩:=h1.TG aR rfl rfl hQ (k':=k+1) (by show(d.loose++[(i,s)]).length<=k+1;rw[fw];have:=h.gC;simp only[Ca];omega);exact K υ bk cn (Kp.trans (x.aO D) p5 (λ_ _ h=>h) (λ_ _ h=>h))
theorem hG.flush{w0 w:World}{eC:bl}{B pd:Nat}{d:ba.du}{D:bl}{k:Nat}(h:hG w0 eC w B pd d D k){N:Value->al}{X:List PanicEntry->al}
  (K:∀w' bk,hG w0 eC w' B pd (lC d) bk 0->Kp w w' D->N (.int .i64 0) w'):
  κ prog 57 #[.pointer (some ⟨pd,0,none⟩)] w N X:=by
 refine κ.use (ba.akl h.dev h.fz) ?_;rw[ba.aoe h.after h.off];rintro _ υ ⟨rfl,aR⟩;obtain⟨bk,cn,p5⟩:=h.TG aR rfl rfl rfl (k':=0) (dO _);exact K υ bk cn p5
theorem hG.afs{w0 w w':World}{eC:bl}{B pd:Nat}{d:ba.du}{D:bl}{k:Nat}(h:hG w0 eC w B pd d D k)(aO:Kp w w' D){B':Nat}{ps:aY}{pgs:List aq}(g:j8 w B' ps pgs):j8 w' B' ps pgs:=
 g.dS λo=>h.dS aO o (by decide) (by decide) (by decide)
theorem aay(q:Int):0<=q8 q/\q8 q<=12:=by unfold q8;omega
theorem ZV{w0 w:World}{eC:bl}{B pd:Nat}{d:ba.du}{D:bl}{yy:Nat}(h:hG w0 eC w B pd d D yy)(I4:yy<=1000000){R:bZ}{qs:aY}(cb:iE w R qs){s k q:Int}(aH:vV q)(bm:mN s k R):
  qN.C (some ⟨pd,0,none⟩) (bT R qs).toArray s k q w (ω λv w'=>v=.int .i64 0/\∃bk,hG w0 eC w' B pd (wb d s k q R) bk 0):=by
 have dD:=cb.len;have mU:∀bw∈jg s k q (fg k R),ba.lx bw:=λbw h=>⟨WU bw h,WV aH bm cb.ok dD bw h⟩;have hlen:=LS s k q (fg k R);have Vz:fW (fg k R).length<=11:=by have:=JB dD bm.1.2.1 k;unfold fW;omega
 have LK:=aay q;apply qN.ok;unfold qN.main;rintro δ ε eL rfl;have σ:=μ.new (w:=w) (bT R qs) b3;rw[<-eL,cb.eA]at σ;have θ:=η.alloc w (.cells (bT R qs).toArray b3);generalize w.alloc (.cells (bT R qs).toArray b3)=ε at σ θ⊢;rintro ζ υ eG rfl;have af:=μ.new (w:=ε) (two s k) b2;rw[<-eG]at af;have ρ:=η.alloc ε (.cells (two s k).toArray b2);rw[Ie];generalize ε.alloc (.cells (two s k).toArray b2)=υ at af ρ⊢;have ft:=θ.trans ρ;rw[cond_neg (by rfl)];refine⟨(bT R qs).toArray,by simp[cb.eA],(σ.ex ρ).cells,(two s k).toArray,rfl,af.cells,?_⟩;refine κ.use (Zv (cb.ex ft) s k q) ?_;rintro _ χ ⟨ad,φ⟩;obtain⟨_,_,p,n,c,ps,rfl,BZ,mE⟩:=φ.resolve_right (λh=>h.1 ⟨aH,bm⟩)
 try dsimp only[ca,cT,cU,bo,bL,ee]
 rw[cond_neg (by rfl)];have aJ:=h.ex (ft.trans ad);refine κ.use (TI (q:=q) (by have:=aH.1;have:=aH.2;omega) χ) ?_;rintro _ an ⟨rfl,iJ⟩;obtain rfl:=iJ.symm
 try dsimp only[bL]
 rw[show q%2*12=q8 q from rfl];generalize gy:jg s k q (fg k R)=L at mU hlen mE;have ar:n=L.length:=by have h1:=BZ.1;have ι:=mE.len;omega
 have aqP:wb d s k q R=lC (ba.dv (lC (nM d (q8 q+1) L.tail)) (q8 q) (L.headD [])):=by unfold wb;rw[gy]
 clear σ af;refine aT (by omega) ?_;have se:1<=n:=by omega
 obtain⟨bp,rfl⟩:∃b,p=some ⟨b,0,none⟩:=by
  obtain⟨_,g1,⟨_,g2⟩|⟨b,_,_,g2,_⟩⟩:=BZ
  ·omega
  ·exact⟨b,g2⟩
 unfold qN.bb;refine⟨λt0 D8 D7 H0 t11 Se Sd YA t33 t34 W=>t0=some ⟨pd,0,none⟩/\some ⟨bp,0,none⟩=D8/\n=D7/\c=H0/\q8 q=t11/\dL (some ⟨bp,0,none⟩) c 1 1=Se/\n-1=Sd/\(((n-1:Nat):Nat):Int)=t33/\0<=t34/\t34<=(n-1:Nat)/\μ W υ.heap.size hj 1 (some ⟨bp,0,none⟩) n c ps/\j8 W υ.heap.size ps L/\∃bk,hG w0 eC W B pd (nM d (q8 q+1) (L.tail.take t34.toNat)) bk (yy+t34.toNat),
  λ_ _ _ _ _ _ _ _ _ t34 _=>((n-1:Nat)-t34).toNat,⟨rfl,rfl,rfl,rfl,rfl,rfl,rfl,rfl,by omega,by omega,BZ,mE,D,aJ⟩,?_⟩
 clear BZ mE aJ;rintro _ _ _ _ _ _ _ YA _ t34 W ⟨rfl,rfl,rfl,rfl,rfl,rfl,rfl,rfl,aF,h1,BZ,mE,bk,az⟩;unfold qN.δ;obtain⟨j,rfl⟩:=eF aF;rw[ch]at az;have Dm:(nM d (q8 q+1) (L.tail.take j)).now.length=(nM d (q8 q+1) (L.tail.take j)).now.length:=rfl;have rk:=az.len;refine bt (λψ=>?_) (λψ=>?_)
 ·have ψ:=b6 ψ;have ff:j<L.tail.length:=by rw[G6];omega
  have n2:L[j+1]?=some L.tail[j]:=by rw[<-List.getElem?_eq_getElem ff,List.getElem?_tail]
  obtain⟨aul,auk,anK,aor⟩:=mE.row (j+1) _ n2;refine aT (by omega) (aT (by omega) ?_);have Ds:dL (some (⟨bp,0,none⟩:Addr)) c 1 1=some ⟨bp,1,none⟩:=by unfold dL;rw[aL (by have:=BZ.2.1;omega),eS,jB,dG]
  rw[Ds]
  try dsimp only[bo]
  have C1:(⟨bp,1,none⟩:Addr).add (j*1)=⟨bp,j+1,none⟩:=by rw[<-dG bp 1,add_add,dG,eS,Nat.add_comm]
  rw[ch,C1];refine⟨aul,64,auk,BZ.at anK,?_⟩;rw[bS (x:=q8 q+1) (by omega) (by omega),bS (x:=q8 q+1+(j:Int)) (by omega) (by omega)];refine az.put (by omega) (by omega) (ba.ou.DI az.dev aor (by decide) (by decide) (by decide)) (mU _ (fa n2)) λw' aj4 n5 aO=>?_
  try dsimp only[bL]
  rw[cond_neg (by rfl),bS (x:=(j:Int)+1) (by omega) (by omega)];have aP:((j:Int)+1).toNat=j+1:=by omega
  refine⟨⟨by trivial,by trivial,by trivial,by trivial,by trivial,by first|exact Ds.symm|exact Ds|trivial,by trivial,by trivial,by omega,by omega,az.dS aO BZ (by decide) (by decide) (by decide),az.afs aO mE,aj4,?_⟩,by((try dsimp only);omega)⟩;rw[aP];have sb:L.tail.take (j+1)=L.tail.take j++[L.tail[j]]:=mb ff;rw[sb,XS,hs,sr (by omega)];exact n5
 ·have ψ:=dn ψ;obtain rfl:j=n-1:=by omega
  have ew:L.tail.take (n-1)=L.tail:=hR (by rw[G6];omega);rw[ew]at az;unfold qN.aV;refine az.flush λc4 S6 Wn ad7=>?_
  try dsimp only[bo,bL]
  rw[cond_neg (by rfl)];have as3:=az.dS ad7 BZ (by decide) (by decide) (by decide);have g10:=az.afs ad7 mE;refine aT (by omega) ?_;obtain⟨ZJ,ayQ,Ve⟩:∃a l,L=a::l:=by cases π:L with|nil=>rw[π]at hlen;simp at hlen;omega|cons a l=>exact⟨a,l,rfl⟩
  have acr:L[0]?=some ZJ:=by rw[Ve];rfl
  obtain⟨eu,fN,hB,g0⟩:=g10.row 0 ZJ acr;refine⟨eu,64,fN,as3.at (j:=0) hB,?_⟩;refine Wn.put (by omega) (by have:=Wn.len;omega) (ba.ou.DI Wn.dev g0 (by decide) (by decide) (by decide)) (mU _ (fa acr)) λcm ayI arc aAb=>?_
  try dsimp only[bL]
  rw[cond_neg (by rfl)];refine arc.flush λdp S7 adQ aAc=>?_
  try dsimp only[bL]
  refine ω.mk ⟨rfl,S7,?_⟩;rw[aqP,Ve];rw[Ve]at adQ;exact adQ
open dI
def parts(n:Nat):Nat:=(n+5)/6
def nB(n j:Nat):Nat:=min 6 (n-6*j)
def ua(l:List gd)(j:Nat):List gd:=(l.drop (6*j)).take 6
def HB(d:ba.du)(q:Int)(u:Nat)(l:List gd)(xs:List Nat):ba.du:=
 xs.zipIdx.foldl (λd x=>ba.dv d ((24+(u+x.2):Nat):Int) (lk (rP q ((u+x.2:Nat):Int) (ua l x.1)))) d
theorem agD(d:ba.du)(q:Int)(u:Nat)(l:List gd)(xs:List Nat)(x:Nat):HB d q u l (xs++[x])=ba.dv (HB d q u l xs) ((24+(u+xs.length):Nat):Int) (lk (rP q ((u+xs.length:Nat):Int) (ua l x))):=by unfold HB;rw[List.zipIdx_append,List.foldl_append];simp
def D3(d:ba.du)(q:Int)(u:Nat)(l:List gd):ba.du:=HB d q u l (List.range (parts l.length))
theorem TU{n j:Nat}(h:j<parts n):0<nB n j/\6*j+nB n j<=n/\nB n j<=6:=by unfold parts at h;unfold nB;omega
theorem asc{n j:Nat}(h:6*j<n):j<parts n:=by unfold parts;omega
theorem atF{n j:Nat}(h:n<=6*j):parts n<=j:=by unfold parts;omega
theorem TS(l:List gd)(j:Nat):(ua l j).length=nB l.length j:=by unfold ua nB;rw[hs,lg]
theorem K1{l:List gd}{j:Nat}{d:gd}(h:d∈ua l j):d∈l:=JO (xy h)
def UA(p:γ)(n j:Nat):Value:=.slice (dL p (6*j+nB n j) (6*j) 5) (nB n j) (nB n j)
theorem ass(m:Nat):min2 6 (m:Int)=((min 6 m:Nat):Int):=by unfold min2;split<;>omega
theorem ajW{w:World}{o0 fs eu dK:Nat}{p:γ}{n c:Nat}(MO:μ w o0 Kn 1 (some ⟨eu,0,none⟩) 1 1 [.slice p n c])(σ:μ w fs cz 1 (some ⟨dK,0,none⟩) 1 1 [.int .i64 6])(ar:n<=100000)(jG:n<=c):
  SeqStopsK Fence.wide 0 prog 184 #[.pointer (some ⟨eu,0,none⟩),.pointer (some ⟨dK,0,none⟩)] (λx:_root_.Fin (parts n)=>#[UA p n x.val]) (wE eu dK) (λxs=>xs.map (·.val)=List.range (parts n)) (λ_=>True) (parts n) w:=by
 intro l Et Te W τ LD Vb ag aF;have x:=Kp.ae4 τ;have B4:=MO.aO x (λa aR=>by cases aR;have:=(MO.ge rfl).2;dsimp only at this⊢;omega);have ae:=σ.aO x (λa aR=>by cases aR;have:=(σ.ge rfl).2;dsimp only at this⊢;omega);show tT.C l eu dK W _;apply tT.ok;unfold tT.main tT.bb;refine⟨λt0 t1 t2 t4 w'=>l=t0/\eu=t1/\dK=t2/\Io eu dK (.slice p n c) (.int .i64 6) w'/\∃xs:List (_root_.Fin (parts n)),t4=((6*xs.length:Nat):Int)/\xs.map (·.val)=List.range xs.length/\Et xs w',λt0 t1 t2 t4 w'=>(n+6-t4).toNat,⟨rfl,rfl,rfl,⟨B4.at (by rfl),ae.at (by rfl)⟩,[],rfl,rfl,aF⟩,?_⟩;rintro _ _ _ t4 w' ⟨rfl,rfl,rfl,⟨fN,c1⟩,xs,rfl,iB,ψ⟩;have hlen:xs.length<=parts n:=by
  have h1:=ry (List.range xs.length) (List.range (parts n)) DU λi I=>by rw[<-iB]at I;obtain⟨y,_,rfl⟩:=gx.1 I;exact lh.2 y.isLt
  simpa using h1
 unfold tT.δ;refine⟨p,n,c,fN,?_⟩;refine bt (λh=>?_) (λh=>?_)
 ·have bQ:=b6 h;have Bz:xs.length<parts n:=asc (by omega);have FW:=TU Bz;have IY:nB n xs.length=min 6 (n-6*xs.length):=rfl;refine⟨6,c1,p,n,c,fN,bU (bI (by omega)) (bU (bI (by omega)) ⟨p,n,c,fN,?_⟩)⟩;rw[ch,ass,<-IY];have Bn:IntKind.i64.wrap (((6*xs.length:Nat):Int)+(nB n xs.length:Int))=((6*xs.length+nB n xs.length:Nat):Int):=by
   rw[bS (by omega) (by omega)];rfl
  rw[Bn,ch];refine bU (bI (by omega)) (bU (bI (by omega)) (bU (bI (by omega)) (bU (bI (by omega)) (bU (bI (by omega)) (bU (bI (by omega)) ?_)))));have bM:6*xs.length+nB n xs.length-6*xs.length=nB n xs.length:=by omega
  rw[bM];have ff:Et xs w'.drew:=LD _ _ _ none ψ (acq w') (λr e=>by cases e);obtain⟨fn,tmps,assign,body,iN,z7⟩:=ag xs ⟨xs.length,Bz⟩ w'.drew ff Bz;refine⟨fn,tmps,assign,body,iN,z7.mono λe ε he=>?_⟩;rcases he with⟨rfl,yp,hk⟩|⟨rfl,yp⟩
  ·refine⟨_,rfl,?_⟩
   try dsimp only[dX]
   have pc:=hk _ _ ⟨fN,c1⟩;refine⟨6,pc.2,?_⟩;rw[bS (by omega) (by omega)];refine⟨⟨rfl,rfl,rfl,pc,xs++[⟨xs.length,Bz⟩],?_,?_,yp⟩,by((try dsimp only);omega)⟩
   ·rw[fw,Ca];omega
   ·rw[ss,iB,fw,Ca,v8];rfl
  ·refine⟨_,rfl,?_⟩
   try dsimp only[dX]
   exact⟨⟨_,rfl⟩,.inr ⟨_,trivial,yp⟩⟩
 ·have h:=dn h;have ι:=atF (n:=n) (j:=xs.length) (by omega)
  have:xs.length=parts n:=by omega
  refine⟨⟨_,rfl⟩,.inl ⟨xs,?_,ψ⟩⟩;show xs.map (·.val)=List.range (parts n);rw[iB,this]
theorem bd.avn{w:World}{a:γ}{vs:aY}(π:bd w a vs)(m l h s:Nat)(hm:vs.length<=m*s):bd w (dL a m l s) ((vs.drop (l*s)).take h):=by
 unfold dL;by_cases e:m=l
 ·rw[aN e]
  have:vs.drop (l*s)=[]:=sq (by rw[<-e];exact hm)
  rw[this];cases a with
  |none=>simp[bd]
  |some a=>exactλj v az=>by simp at az
 ·rw[aL e];refine bd.take ?_ h;cases a with
  |none=>have:vs=[]:=π;subst this;simp[bd]
  |some a=>exact aB.drop π _
theorem amt{w:World}{p:γ}{l:List gd}(π:bd w p (kc l)){j:Nat}(ψ:j<parts l.length):bd w (dL p (6*j+nB l.length j) (6*j) 5) (kc (ua l j)):=by
 have h:=TU ψ;have ak:=Pz l;have h1:=bd.avn (π.take ((6*j+nB l.length j)*5)) (6*j+nB l.length j) (6*j) (nB l.length j*5) 5 (by rw[hs];omega);have e:((((kc l).take ((6*j+nB l.length j)*5)).drop (6*j*5)).take (nB l.length j*5))=kc (ua l j):=by
  have ah:kc l=kc (l.take (6*j))++(kc (ua l j)++kc ((l.drop (6*j)).drop 6)):=by rw[<-Lb,<-Lb];unfold ua;rw[Au,Au]
  have bb:(kc (l.take (6*j))).length=6*j*5:=by rw[Pz,hs];omega
  have eZ:(kc (ua l j)).length=nB l.length j*5:=by rw[Pz,TS]
  rw[G2,ah,<-bb,Nr,Ce,bb,<-eZ,qj (by rw[eZ];omega),hR (by rw[eZ];omega)]
 rw[e]at h1;exact h1
structure OX(w0:World)(eC:bl)(fk B pd:Nat)(d:ba.du)(δ ζ ax aa cu:Nat)(q u:Int)(k:Nat)(Er:Nat)(p:γ)(n c:Nat)(l:List gd)(W:World):Prop where
 dev:∃bk,hG w0 eC W B pd d bk k
 size:fk<=W.heap.size
 σ:μ W fk SA 1 (some ⟨δ,0,none⟩) 1 1 [.pointer (some ⟨pd,0,none⟩)]
 af:μ W fk cz 1 (some ⟨ζ,0,none⟩) 1 1 [.int .i64 q]
 bh:μ W fk cz 1 (some ⟨ax,0,none⟩) 1 1 [.int .i64 u]
 cJ:μ W fk cz 1 (some ⟨aa,0,none⟩) 1 1 [.int .i64 0]
 cB:μ W fk Ea 1 (some ⟨cu,0,none⟩) 1 1 [.int .i64 0]
 ol:μ W Er fS 5 p n c (kc l)
theorem hG.grown{w0 W bq:World}{eC:bl}{B pd k C:Nat}{d:ba.du}{D:bl}(h:hG w0 eC W B pd d D k)(aO:Kp W bq (wG W C))(hC:w0.heap.size<=C):hG w0 eC bq B pd d D k:=
 ⟨hF.grown h.dev aO,h.fz,h.off,h.after,h.len,h.gC,h.low,h.aO.later aO hC,h.sub⟩
theorem OX.grown{w0:World}{eC:bl}{fk B pd:Nat}{d:ba.du}{δ ζ ax aa cu:Nat}{q u:Int}{k Er:Nat}{p:γ}{n c:Nat}{l:List gd}{W bq:World}{C:Nat}(h:OX w0 eC fk B pd d δ ζ ax aa cu q u k Er p n c l W)(aO:Kp W bq (wG W C))(hC:w0.heap.size<=C):OX w0 eC fk B pd d δ ζ ax aa cu q u k Er p n c l bq:=by obtain⟨⟨bk,aF⟩,ak,h1,ι,aJ,cK,dx,h8⟩:=h;exact⟨⟨bk,aF.grown aO hC⟩,gE ak aO.size,h1.grown aO,ι.grown aO,aJ.grown aO,cK.grown aO,dx.grown aO,h8.grown aO⟩
theorem ak1{w0 w:World}{eC:bl}{B pd:Nat}{d:ba.du}{D:bl}{yy:Nat}(h:hG w0 eC w B pd d D yy)(I4:yy<=1000000){seq:Int}(ab:1<=seq/\seq<=1073741824){u:Nat}{Er:Nat}{p:γ}{n c:Nat}{l:List gd}(ol:μ w Er fS 5 p n c (kc l))(ak:l.length=n)(ar:n<=(16-u)*6)(hu:u<=16)(hw:∀d∈l,d.wf)(bm:∀d∈l,ix d=0):
  qP.C (some ⟨pd,0,none⟩) seq u p n c w (ω λv w'=>v=.tuple #[.int .i64 ((u+parts n:Nat):Int),.int .i64 0]/\∃bk,hG w0 eC w' B pd (D3 d seq u l) bk (yy+16)):=by
 apply qP.ok;unfold qP.main;rintro δ ε eL rfl;have σ:=μ.new (w:=w) [.pointer (some ⟨pd,0,none⟩)] SA;rw[<-eL]at σ;have θ:=η.alloc w (.cells [Value.pointer (some ⟨pd,0,none⟩)].toArray SA);have bb:=(σ.ge rfl).2;generalize w.alloc (.cells #[.pointer (some ⟨pd,0,none⟩)] SA)=ε at σ θ bb⊢;rintro ζ υ eG rfl;have af:=μ.new (w:=ε) [.int .i64 seq] cz;rw[<-eG]at af;have ρ:=η.alloc ε (.cells [Value.int .i64 seq].toArray cz);have eZ:=(af.ge rfl).2;generalize ε.alloc (.cells #[.int .i64 seq] cz)=υ at af ρ eZ⊢;rintro ax χ jm rfl;have bh:=μ.new (w:=υ) [.int .i64 (u:Int)] cz;rw[<-jm]at bh;have ad:=η.alloc υ (.cells [Value.int .i64 (u:Int)].toArray cz);have ob:=(bh.ge rfl).2;generalize υ.alloc (.cells #[.int .i64 (u:Int)] cz)=χ at bh ad ob⊢;rintro aa ao lX rfl;have cJ:=μ.new (w:=χ) [.int .i64 0] cz;rw[<-lX]at cJ;have aC:=η.alloc χ (.cells [Value.int .i64 0].toArray cz);have p7:=(cJ.ge rfl).2;generalize χ.alloc (.cells #[.int .i64 0] cz)=ao at cJ aC p7⊢;rintro cu an lY rfl;have cB:=μ.new (w:=ao) [.int .i64 0] Ea;rw[<-lY]at cB;have ay:=η.alloc ao (.cells [Value.int .i64 0].toArray Ea);generalize ao.alloc (.cells #[.int .i64 0] Ea)=an at cB ay⊢;dsimp only at bb eZ ob p7;have σ:=(σ.ex (ρ.trans (ad.trans (aC.trans ay)))).lower (show w.heap.size<=δ by omega);have af:=(af.ex (ad.trans (aC.trans ay))).lower (show w.heap.size<=ζ by omega);have bh:=(bh.ex (aC.trans ay)).lower (show w.heap.size<=ax by omega);have cJ:=(cJ.ex ay).lower (show w.heap.size<=aa by omega);have cB:=cB.lower (show w.heap.size<=cu by omega);have Gg:=θ.trans (ρ.trans (ad.trans (aC.trans ay)));clear θ ρ ad aC ay;refine⟨some ⟨pd,0,none⟩,σ.at (by rfl),?_⟩;rw[cond_neg (by rfl)];refine⟨seq,af.at (by rfl),?_⟩;rw[jl (by omega)];refine⟨seq,af.at (by rfl),?_⟩;rw[jl (by omega)];refine⟨u,bh.at (by rfl),?_⟩;rw[jl (by omega)];refine⟨u,bh.at (by rfl),?_⟩;rw[jl (by omega)];unfold qP.bb;refine⟨λde c3 dy t4 t5 t6 t8 t9 N1 N0 Sf t35 t36 w'=>p=de/\n=c3/\c=dy/\δ=t4/\ζ=t5/\ax=t6/\aa=t8/\cu=t9/\p=N1/\n=N0/\c=Sf/\t35=(n:Int)/\0<=t36/\t36<=n/\η an w',
  λde c3 dy t4 t5 t6 t8 t9 N1 N0 Sf t35 t36 w'=>(n-t36).toNat,⟨rfl,rfl,rfl,rfl,rfl,rfl,rfl,rfl,rfl,rfl,rfl,rfl,by omega,by omega,η.refl _⟩,?_⟩
 rintro _ _ _ _ _ _ _ _ _ _ _ _ t36 w' ⟨rfl,rfl,rfl,rfl,rfl,rfl,rfl,rfl,rfl,rfl,rfl,rfl,aF,h1,J⟩;unfold qP.δ;refine bt (λψ=>?_) (λψ=>?_)
 ·have ψ:=b6 ψ;obtain⟨j,rfl⟩:=eF aF;obtain⟨e,he,hm,_⟩:=ba.pU (show j<l.length by omega);refine bU (bI aF) (bU (bI ψ) ?_);obtain⟨a,rfl,l4⟩:=abE ((ol.cells.ex Gg).ex J) he
  try dsimp only[bo]
  refine⟨e.cells.toArray,rfl,l4,?_⟩;rintro dR aZ rfl rfl;have bY:=μ.new (w:=w') nw fS;have aM:=η.alloc w' (.cells nw.toArray fS);unfold nw at bY aM;generalize w'.alloc (.cells #[.int .i64 0,.int .i64 0,.int .i64 0,.int .i64 0,.complex .f64 0 0] fS)=aZ at bY aM⊢;refine bU (by rfl) ?_;refine bY.put (by rfl) cells_one λa8 hW eN=>?_;have aU:η w' a8:=aM.then hW λi I=>I▸dO _;refine⟨e.cells.toArray,rfl,eN.cells,?_⟩;refine κ.use (dI.CB (hw e hm) _) ?_;rintro _ bV ⟨rfl,cj⟩
  try dsimp only[bL]
  rw[bm e hm,cond_neg (by rfl)];have iK:IntKind.i64.wrap ((j:Int)+1)=((j+1:Nat):Int):=by rw[bS (by omega) (by omega)];rfl
  rw[iK];exact⟨⟨rfl,rfl,rfl,rfl,rfl,rfl,rfl,rfl,rfl,rfl,rfl,rfl,by omega,by omega,J.trans (aU.trans cj)⟩,by((try dsimp only);omega)⟩
 ·unfold qP.aV;have σ:=σ.ex J;have af:=af.ex J;have bh:=bh.ex J;have cJ:=cJ.ex J;have cB:=cB.ex J;have J:=Gg.trans J;clear Gg;refine⟨u,bh.at (by rfl),?_⟩;rw[bS (x:=16-(u:Int)) (by omega) (by omega),bS (by omega) (by omega),jl (by omega)];refine κ.use (dI.S2 p n c w') ?_;rintro _ eP ⟨eu,dK,rfl,lP,B4,ae⟩;refine bU (by rfl) ?_;have Wq:=J.trans lP;have o7:=h.ex Wq;have σ:=σ.ex lP;have af:=af.ex lP;have aAn:ax<w'.heap.size:=(bh.ge rfl).2;have aAo:aa<w'.heap.size:=(cJ.ge rfl).2;have bh:=bh.ex lP;have cJ:=cJ.ex lP;have cB:=cB.ex lP;have atd:=ol.ex Wq;have Mh:w'.heap.size<=eu:=(B4.ge rfl).1;have Mi:w'.heap.size<=dK:=(ae.ge rfl).1;have Wd:parts n<=16-u:=by unfold parts;omega
  have eV:w0.heap.size<=eP.heap.size:=o7.aO.size;have az4:w0.heap.size<=w.heap.size:=h.aO.size;refine⟨_root_.Fin (parts n),λx=>UA p n x.val,wE eu dK,λxs=>xs.map (·.val)=List.range (parts n),λ_=>True,parts n,
   λxs W=>OX w0 eC w.heap.size B pd (HB d seq u l (xs.map (·.val))) δ ζ ax aa cu seq ((u+xs.length:Nat):Int) (yy+xs.length) Er p n c l W/\μ W 0 Kn 1 (some ⟨eu,0,none⟩) 1 1 [.slice p n c]/\μ W 0 cz 1 (some ⟨dK,0,none⟩) 1 1 [.int .i64 6],λ_ _=>False,?_,?_,?_,?_⟩
  ·refine⟨ajW B4 ae (by omega) ol.2.1,λh k=>h.trans k,λW l o ib _ aG π _=>wE.book W l o ib aG π,?_,λ_ _ _ _ h=>h.elim,⟨⟨⟨D,o7⟩,Wq.size,σ,af,bh,cJ,cB,atd⟩,B4.lower (eR _),ae.lower (eR _)⟩⟩;intro xs W bq row jt VP φ;have k:=Kp.grown VP φ;exact⟨jt.1.grown k eV,jt.2.1.grown k,jt.2.2.grown k⟩
  ·intro pre x fb jt aqF;obtain⟨⟨⟨fx,acu⟩,qD,σ,af,bh,cJ,cB,ae9⟩,lj,cM⟩:=jt;have Mr:=x.isLt;have FW:=TU Mr;have vJ:pre.length<16-u:=by omega
   have gD:=TS l x.val;rw[ak]at gD;unfold UA
   try dsimp only[ee]
   refine⟨seq,af.at (by rfl),((u+pre.length:Nat):Int),bh.at (by rfl),?_⟩;have mU:ba.lx (lk (rP seq ((u+pre.length:Nat):Int) (ua l x.val))):=⟨y5 (by rw[RV,gD];omega),J6 (RU (λd ah=>hw d (K1 ah)) λd ah=>bm d (K1 ah))⟩;have s0:bd fb (dL p (6*x.val+nB n x.val) (6*x.val) 5) (kc (ua l x.val)):=by
    have:=amt ae9.cells (j:=x.val) (by rw[ak];exact Mr)
    rw[ak]at this;exact this
   refine κ.use (dI.agi seq _ _ _ _ (ua l x.val) fb ⟨by omega,by omega⟩ s0 gD FW.2.2 (λd ah=>hw d (K1 ah)) λd ah=>bm d (K1 ah)) ?_;rintro _ ja ⟨q,e,rfl,uC,Ek⟩
   try dsimp only[ca,cT,cU,bo,bL,ee]
   rw[cond_pos (by rfl)];refine⟨some ⟨pd,0,none⟩,(σ.ex Ek).at (by rfl),((u+pre.length:Nat):Int),(bh.ex Ek).at (by rfl),?_⟩;have wV:IntKind.i64.wrap (24+((u+pre.length:Nat):Int))=((24+(u+pre.length):Nat):Int):=by rw[bS (by omega) (by omega)];omega
   rw[wV];have FI:=acu.ex Ek;have rk:=FI.len;refine FI.put (by omega) (i:=((24+(u+pre.length):Nat):Int)) ⟨by omega,by omega⟩ (ba.ou.DI FI.dev uC (by decide) (by decide) (by decide)) mU λga gO lD yE=>?_
   try dsimp only[bL]
   rw[cond_neg (by rfl)];have off:∀{e:TypeId}{sz:Nat}{p:γ}{n c B':Nat}{xs:aY},μ fb B' e sz p n c xs->e≠Sx->e≠Sy->e≠Sz->μ ga B' e sz p n c xs:=
    λo g1 g2 g3=>FI.dS yE (o.ex Ek) g1 g2 g3
   have tj:=off σ (by decide) (by decide) (by decide);have sl:=off af (by decide) (by decide) (by decide);have uB:=off bh (by decide) (by decide) (by decide);have GA:=off cJ (by decide) (by decide) (by decide);have Q1:=off cB (by decide) (by decide) (by decide);have atc:=off ae9 (by decide) (by decide) (by decide);refine⟨_,uB.at (by rfl),?_⟩;have anN:IntKind.i64.wrap (((u+pre.length:Nat):Int)+1)=((u+(pre.length+1):Nat):Int):=by rw[bS (by omega) (by omega)];omega
   rw[anN];refine uB.dv (JV 0) (by rfl) λkZ Ae yM=>?_;have p5:Kp fb kZ λi=>fx i\/i=ax:=Kp.trans ((Ek.aO fx).gL yE) Ae (λi _ h=>.inl h) (λi _ h=>.inr h);have t3:=(uB.typed rfl).1;have Ly:hG w0 eC kZ B pd (ba.dv (HB d seq u l (pre.map (·.val))) ((24+(u+pre.length):Nat):Int) (lk (rP seq ((u+pre.length:Nat):Int) (ua l x.val)))) gO (yy+pre.length+1):=by
    refine⟨lD.dev.aO Ae λi I e=>?_,lD.fz,lD.off,lD.after,lD.len,lD.gC,lD.low,Kp.trans lD.aO Ae (λ_ _ h=>h) (λi I e=>?_),lD.sub⟩
    ·subst e;rcases(lD.dev.typed I).1 with h4|h4|h4
     ·exact t3.ne h4 (by decide) rfl
     ·exact t3.ne h4 (by decide) rfl
     ·exact t3.ne h4 (by decide) rfl
    ·have:=(bh.ge rfl).1
     dsimp only at this;omega
   have auo:=off lj (by decide) (by decide) (by decide);have aup:=off cM (by decide) (by decide) (by decide);have dU:∀{b B':Nat}{e:TypeId}{sz n c:Nat}{xs:aY},μ ga B' e sz (some ⟨b,0,none⟩) n c xs->b≠ax->μ kZ B' e sz (some ⟨b,0,none⟩) n c xs:=λo b1=>o.aO Ae λx J=>by cases J;exact b1
   have d1:δ≠ax:=λe=>by subst e;exact(tj.typed rfl).1.ne t3 (by decide) rfl
   have d0:eu≠ax:=by omega
   have afT:=dU auo d0;have afU:=dU aup (by omega);refine⟨KeepsOthers.ae5 p5 ?_,?_,⟨⟨gO,?_⟩,gE qD p5.size,dU tj d1,dU sl (by omega),?_,dU GA (by omega),Q1.cV Ae cz (λi I=>I▸t3) (by decide),atc.cV Ae cz (λi I=>I▸t3) (by decide)⟩,afT,afU⟩
   ·rintro i _ (I|rfl)
    ·rcases(acu.dev.typed I).1 with t|t|t<;>exact⟨_,t⟩
    ·exact⟨_,(bh.typed rfl).1⟩
   ·intro v0 v1 π;have hB:=π.1.symm.trans (lj.at (j:=0) (by rfl));have aP:=π.2.symm.trans (cM.at (j:=0) (by rfl));cases hB;cases aP;exact⟨afT.at (by rfl),afU.at (by rfl)⟩
   ·have aP:(pre++[x]).map (·.val)=pre.map (·.val)++[x.val]:=by simp
    rw[aP,agD,jM,fw];exact Ly
   ·rw[fw];exact yM
  ·intro wD xs eJ aoE iB jt FX;have iB:xs.map (·.val)=List.range (parts n):=iB;obtain⟨⟨⟨fx,g1⟩,qD,aAp,aX,kh,jv,fv,pl⟩,_,_⟩:=jt;have p2:xs.length=parts n:=by have:=hr List.length iB;simpa using this
   rw[p2]at kh g1;refine⟨_,kh.at (by rfl),?_⟩;refine jv.dv (JV 0) (by rfl) λlN WI GB=>?_;have afq:=fv.aO WI (λx J=>by cases J;dsimp only;intro e;subst e;exact(fv.typed rfl).1.ne (jv.typed rfl).1 (by decide) rfl);refine afq.dv (JV 0) (by rfl) λns WJ GC=>?_;have aeU:=GB.aO WJ (λx J=>by cases J;dsimp only;intro e;subst e;exact(fv.typed rfl).1.ne (jv.typed rfl).1 (by decide) rfl);have b1:∀{b B':Nat}{e:TypeId}{W:World}{xs:aY}{sz n c:Nat},μ W B' e sz (some ⟨b,0,none⟩) n c xs->W.heap[wD]?=some (.deferred (some []))->wD≠b:=λo ah e=>by obtain⟨cur,fr,aS⟩:=(o.typed rfl).1;dsimp only at aS;rw[<-e,ah]at aS;cases aS
   have VB:lN.heap[wD]?=some (.deferred (some [])):=by rw[WI.block wD (Array.getElem?_eq_some_iff.1 FX).1 (b1 jv FX)];exact FX
   have VC:ns.heap[wD]?=some (.deferred (some [])):=by rw[WJ.block wD (Array.getElem?_eq_some_iff.1 VB).1 (b1 afq VB)];exact VB
   refine⟨VC,?_⟩;have QH:=Kp.putObj ns wD (.deferred none);have as0:=aeU.aO QH (λx J=>by cases J;exactλe=>b1 aeU VC e.symm);have as1:=GC.aO QH (λx J=>by cases J;exactλe=>b1 GC VC e.symm);refine⟨_,as0.at (by rfl),_,as1.at (by rfl),?_⟩;have ape:w.heap.size<=aa:=(jv.ge rfl).1;have apf:w.heap.size<=cu:=(fv.ge rfl).1;have cn:eP.heap.size<=wD:=aoE;have b4:Kp eJ (ns.putObj wD (.deferred none)) λi=>i=aa\/i=cu\/i=wD:=Kp.trans (Kp.trans WI WJ (λi _ h=>.inl h) (λi _ h=>.inr h)) QH (λi _ h=>by rcases h with h|h;exact .inl h;exact .inr (.inl h)) (λi _ h=>.inr (.inr h)) (T:=λi=>i=wD) (S:=λi=>i=aa\/i=cu);refine ω.mk ⟨rfl,fx,?_⟩;unfold D3;rw[ak,<-iB];refine⟨g1.dev.aO b4 λi I ab=>?_,g1.fz,g1.off,g1.after,g1.len,by have:=g1.gC;omega,g1.low,Kp.trans g1.aO b4 (λi _ h=>h) (λi I ab=>absurd ab (by omega)),g1.sub⟩;have aS:=(g1.dev.typed I).1;rcases ab with rfl|rfl|rfl
   ·have t:=(jv.typed rfl).1;rcases aS with h4|h4|h4
    ·exact t.ne h4 (by decide) rfl
    ·exact t.ne h4 (by decide) rfl
    ·exact t.ne h4 (by decide) rfl
   ·have t:=(fv.typed rfl).1;rcases aS with h4|h4|h4
    ·exact t.ne h4 (by decide) rfl
    ·exact t.ne h4 (by decide) rfl
    ·exact t.ne h4 (by decide) rfl
   ·have:wG eJ 0 i:=⟨eR _,_,FX,rfl⟩
    rcases aS with t|t|t<;>exact this.typed t
  ·intro wD pre gh _ _ jt _;exact jt.elim
end Go.Proofs.YtcpdfhkhaekekaaGreat.G.cS
namespace Go.Proofs.YtcpdfhkhaekekaaGreat.G.b9
open Go.bJ Go.RowKit
theorem al2{w:World}{e:TypeId}{sz:Nat}{p:γ}{n c m bytes:Nat}{zero:aj}{Src:aY->Prop}{N:γ->Nat->al}
  (h:ho w p n c m Src e sz bytes zero λb5 aW w'=>(b5=p\/∀x,b5=some x->w.heap.size<=x.block)->N b5 aW w'):ho w p n c m Src e sz bytes zero N:=by
 obtain⟨ys,h1,ι,aJ,cK⟩:=h;refine⟨ys,h1,ι,λφ=>⟨(aJ φ).1,λw' hw=>(aJ φ).2 w' hw (.inl rfl)⟩,λbH=>?_⟩;obtain⟨aV,bK,GH,b4,cI,dT⟩:=cK bH;exact⟨aV,bK,GH,b4,cI,λb aW w' τ π hw=>dT b aW w' τ π hw (.inr λx J=>by cases J;exact JK τ.symm)⟩
structure cZ where
 k:Int
 v:Int
 b:Int
 s:Int
 bs:aq
 p:γ
 n:Nat
 c:Nat
def cZ.cells(r:cZ):aY:=[.int .i64 r.k,.int .i64 r.v,.int .i64 r.b,.int .i64 r.s,.slice r.p r.n r.c]
abbrev bytesOf(r:cZ):aY:=r.bs.map (Value.int .u8)
structure Small(r:cZ):Prop where
 len:r.bs.length=r.n
 gC:r.n<=140737488351232
 wf:∀x∈r.bs,0<=x/\x<256
structure To(w:World)(r:cZ):Prop where
 cells:bd w r.p (bytesOf r)
 small:Small r
def fz(k:Int):Prop:=1<=k/\k<=9
def lQ:aY:=[.int .i64 0,.int .i64 0,.int .i64 0,.int .i64 0,.slice none 0 0]
theorem C5{a b c d:Int}{p:γ}{n m:Nat}:∀y∈[Value.int .i64 a,.int .i64 b,.int .i64 c,.int .i64 d,.slice p n m],y.oneCell'=true:=by intro y ag;simp only[fB,oi,py]at ag;rcases ag with rfl|rfl|rfl|rfl|rfl<;>rfl
theorem ave{a b c d f:Int}{p:γ}{n m:Nat}:∀y∈[Value.int .i64 a,.int .i64 b,.int .i64 c,.int .i64 d,.slice p n m,.int .i64 f],y.oneCell'=true:=by intro y ag;simp only[fB,oi,py]at ag;rcases ag with rfl|rfl|rfl|rfl|rfl|rfl<;>rfl
theorem Pn(r:cZ)(w:World)(h:To w r):
  FF.C r.k r.v r.b r.s r.p r.n r.c w (ω λv w'=>∃b5 aW,v=.agg (cZ.cells {r with p:=b5,c:=aW}).toArray/\η w w'/\μ w' w.heap.size 5 1 b5 r.n aW (bytesOf r)):=by
 apply FF.ok;unfold FF.main;rintro δ ε rfl rfl ζ υ rfl rfl;have σ:=μ.new (w:=w) (cZ.cells r) e7;have θ:=η.alloc w (.cells (cZ.cells r).toArray e7);unfold cZ.cells at σ θ;generalize w.alloc (.cells #[.int .i64 r.k,.int .i64 r.v,.int .i64 r.b,.int .i64 r.s,.slice r.p r.n r.c] e7)=ε at σ θ⊢;have af:=μ.new (w:=ε) lQ e7;have ρ:=η.alloc ε (.cells lQ.toArray e7);unfold lQ at af ρ;generalize ε.alloc (.cells #[.int .i64 0,.int .i64 0,.int .i64 0,.int .i64 0,.slice none 0 0] e7)=υ at af ρ⊢;have df:=θ.trans ρ;have BU:=σ.ex ρ;refine⟨_,_,_,BU.at (j:=4) rfl,?_⟩;refine κ.use (ba.KC r.p r.n r.c (bytesOf r) υ (h.cells.ex df) (by simpa using h.small.len) h.small.gC (Kr _ _)) ?_;rintro _ χ ⟨b5,aW,rfl,ad,bh⟩
 try dsimp only[ee]
 have s1:w.heap.size<ε.heap.size:=(σ.typed rfl).2.2;refine(BU.ex ad).dv (j:=4) (by show 4<1*5;omega) rfl λan dT cB=>?_;refine⟨#[.int .i64 r.k,.int .i64 r.v,.int .i64 r.b,.int .i64 r.s,.slice b5 r.n aW],rfl,cB.cells,aT rfl ?_⟩
 try dsimp only[h7]
 refine((af.ex ad).aO dT (λx e I=>by cases e;dsimp only at I;omega)).put (by rfl) C5 λaZ eD bY=>?_;refine⟨_,rfl,bY.cells,ω.mk ⟨b5,aW,rfl,?_,?_⟩⟩
 ·refine((df.trans ad).then dT λi I=>?_).then eD λi I=>?_
  ·rw[I];exact dO _
  ·rw[I];exact θ.size
 ·have ax:υ.heap.size<=υ.heap.size:=dO _;have s2:ε.heap.size<υ.heap.size:=(af.typed rfl).2.2;refine((bh.aO dT λx e I=>?_).aO eD λx e I=>?_).lower (gE θ.size ρ.size)
  ·have:=(bh.ge e).1
   omega
  ·have:=(bh.ge e).1
   omega
theorem CB(r:cZ)(w:World):FA.C r.k r.v r.b r.s r.p r.n r.c w (ω λv w'=>(fz r.k/\v=.int .i64 0\/¬fz r.k/\v=.int .i64 1)/\η w w'):=by
 apply FA.ok;unfold FA.main;rintro δ ε rfl rfl;have σ:=μ.new (w:=w) (cZ.cells r) e7;have θ:=η.alloc w (.cells (cZ.cells r).toArray e7);unfold cZ.cells at σ θ;generalize w.alloc (.cells #[.int .i64 r.k,.int .i64 r.v,.int .i64 r.b,.int .i64 r.s,.slice r.p r.n r.c] e7)=ε at σ θ⊢;unfold fz;refine⟨_,σ.at (j:=0) rfl,bt (λh=>?_) (λh=>?_)⟩
 ·have:=b6 h
  exact ω.mk ⟨.inr ⟨by omega,rfl⟩,θ⟩
 have h1:=dn h;refine⟨_,σ.at (j:=0) rfl,bt (λh=>?_) (λh=>?_)⟩
 ·have:=b6 h
  exact ω.mk ⟨.inr ⟨by omega,rfl⟩,θ⟩
 have ι:=dn h;exact ω.mk ⟨.inl ⟨by omega,rfl⟩,θ⟩
def boxed(x:cZ×Int):Value:=.iface Oc (.agg #[.int .i64 x.1.k,.int .i64 x.1.v,.int .i64 x.1.b,.int .i64 x.1.s,.slice x.1.p x.1.n x.1.c,.int .i64 x.2])
structure OU(w:World)(B bw:Nat)(xs:List (cZ×Int))(aA:Int)(q:γ)(c:Nat):Prop where
 σ:μ w B sx 2 (some ⟨bw,0,none⟩) 1 1 [.slice q xs.length c,.int .i64 aA]
 af:lv w B xK 1 q xs.length c (xs.map boxed)
 bh:∀x∈xs,μ w B dt 1 x.1.p x.1.n x.1.c (bytesOf x.1)/\Small x.1
def ZF(bw:Nat)(q:γ)(i:Nat):Prop:=i=bw\/∃x,q=some x/\x.block=i
def nV(w:World)(B bw:Nat)(xs:List (cZ×Int))(aA:Int)(D:bl):Prop:=∃q c,OU w B bw xs aA q c/\∀i,D i↔ZF bw q i
theorem OU.aO{w w':World}{S:bl}{B bw:Nat}{xs:List (cZ×Int)}{aA:Int}{q:γ}{c:Nat}(h:OU w B bw xs aA q c)(k:Kp w w' S)(ab:∀i,ZF bw q i->¬S i)(dx:∀i,S i->¬Typed w dt i):OU w' B bw xs aA q c:=
 ⟨h.σ.aO k λx J=>ab _ (.inl (by cases J;rfl)),h.af.aO k λx J=>ab _ (.inr ⟨x,J,rfl⟩),λx J=>⟨(h.bh x J).1.aO k λa aR eU=>dx _ eU ((h.bh x J).1.typed aR).1,(h.bh x J).2⟩⟩
theorem nV.aO{w w':World}{S:bl}{B bw:Nat}{xs:List (cZ×Int)}{aA:Int}{D:bl}(h:nV w B bw xs aA D)(k:Kp w w' S)(ab:∀i,D i->¬S i)(dx:∀i,S i->¬Typed w dt i):nV w' B bw xs aA D:=by obtain⟨q,c,h,cn⟩:=h;exact⟨q,c,h.aO k (λi I=>ab i ((cn i).2 I)) dx,cn⟩
theorem nV.ex{w w':World}{B bw:Nat}{xs:List (cZ×Int)}{aA:Int}{D:bl}(h:nV w B bw xs aA D)(k:η w w'):nV w' B bw xs aA D:=h.aO k (λ_ _ h=>h) λ_ h=>h.elim
theorem nV.typed{w:World}{B bw:Nat}{xs:List (cZ×Int)}{aA:Int}{D:bl}(h:nV w B bw xs aA D){i:Nat}(I:D i):(Typed w sx i\/Typed w xK i)/\B<=i/\i<w.heap.size:=by
 obtain⟨q,c,h,cn⟩:=h;rcases(cn i).1 I with rfl|⟨x,J,rfl⟩
 ·exact⟨.inl (h.σ.typed rfl).1,(h.σ.typed rfl).2⟩
 ·exact⟨.inr (h.af.typed J).1,(h.af.typed J).2⟩
def SY(w:World)(B bw:Nat)(xs:List (cZ×Int))(aA:Int)(D:bl)(w':World):Prop:=∃bk,nV w' B bw xs aA bk/\Kp w w' D/\∀i,bk i->D i\/w.heap.size<=i
theorem A3(w:World):FE.C w (ω λv w'=>v=.pointer (some ⟨w.heap.size,0,none⟩)/\η w w'/\∃D,nV w' w.heap.size w.heap.size [] 0 D):=by apply FE.ok;unfold FE.main;rintro δ ε rfl rfl;have σ:=μ.new (w:=w) [.slice none 0 0,.int .i64 0] sx;exact ω.mk ⟨rfl,η.alloc w _,_,none,0,⟨σ,lv.nil _ _ _ _,λx J=>by cases J⟩,λi=>og⟩
theorem akA{w:World}{B bw:Nat}{xs:List (cZ×Int)}{aA:Int}{D:bl}(h:nV w B bw xs aA D):FC.C (some ⟨bw,0,none⟩) w (ω λv w'=>v=.int .i64 ((xs.length:Nat):Int)/\w'=w):=by
 apply FC.ok;unfold FC.main;obtain⟨q,c,⟨h1,ι,aJ⟩,cn⟩:=h
 try dsimp only[nD,bo,jz]
 exact⟨_,_,_,h1.at (j:=0) rfl,ω.mk ⟨rfl,rfl⟩⟩
theorem akk{w:World}{B bw:Nat}{aA:Int}{D:bl}(h:nV w B bw [] aA D):zH.C (some ⟨bw,0,none⟩) w (ω λv w'=>v=.tuple #[.int .i64 0,.agg lQ.toArray,.int .i64 4]/\η w w'):=by
 apply zH.ok;unfold zH.main;obtain⟨q,c,⟨h1,ι,aJ⟩,cn⟩:=h;rintro δ ε rfl rfl;have σ:=μ.new (w:=w) lQ e7;have θ:=η.alloc w (.cells lQ.toArray e7);unfold lQ at σ θ;generalize w.alloc (.cells #[.int .i64 0,.int .i64 0,.int .i64 0,.int .i64 0,.slice none 0 0] e7)=ε at σ θ⊢
 try dsimp only[nD,bo,jz]
 refine⟨_,_,_,(h1.ex θ).at (j:=0) rfl,?_⟩;rw[cond_pos (by simp)];refine σ.put (by rfl) C5 λυ bK af=>?_;exact⟨_,rfl,af.cells,ω.mk ⟨rfl,θ.then bK λi I=>by rw[I];exact dO _⟩⟩
theorem Zy{w:World}{B bw:Nat}{x:cZ×Int}{xs:List (cZ×Int)}{aA:Int}{D:bl}(h:nV w B bw (x::xs) aA D):
  zH.C (some ⟨bw,0,none⟩) w (ω λv w'=>∃b5 aW,v=.tuple #[.int .i64 x.2,.agg (cZ.cells {x.1 with p:=b5,c:=aW}).toArray,.int .i64 0]/\η w w'/\μ w' w.heap.size 5 1 b5 x.1.n aW (bytesOf x.1)):=by
 apply zH.ok;unfold zH.main;obtain⟨q,c,⟨h1,ι,aJ⟩,cn⟩:=h;rintro δ ε rfl rfl;have σ:=μ.new (w:=w) lQ e7;have θ:=η.alloc w (.cells lQ.toArray e7);unfold lQ at σ θ;generalize w.alloc (.cells #[.int .i64 0,.int .i64 0,.int .i64 0,.int .i64 0,.slice none 0 0] e7)=ε at σ θ⊢
 try dsimp only[nD,bo,jz]
 refine⟨_,_,_,(h1.ex θ).at (j:=0) rfl,?_⟩;rw[cond_neg (by simp;omega)];refine⟨_,_,_,(h1.ex θ).at (j:=0) rfl,aT (by simp) ?_⟩;obtain⟨a,aH,kq⟩:=((ι.ex θ).cells).one (v:=boxed x) rfl;refine hh aH ⟨_,kq,?_⟩;unfold boxed;refine aT rfl ?_
 try dsimp only[hA,h7]
 rintro ζ ao rfl rfl;have cJ:=μ.new (w:=ε) [.int .i64 0,.int .i64 0,.int .i64 0,.int .i64 0,.slice none 0 0,.int .i64 0] Oc;have aC:=η.alloc ε (.cells #[.int .i64 0,.int .i64 0,.int .i64 0,.int .i64 0,.slice none 0 0,.int .i64 0] Oc);generalize ε.alloc (.cells #[.int .i64 0,.int .i64 0,.int .i64 0,.int .i64 0,.slice none 0 0,.int .i64 0] Oc)=ao at cJ aC⊢;refine aT rfl ?_
 skip
 refine cJ.put (by rfl) ave λan dT cB=>?_;have ay:η ε an.drew:=(aC.then dT λi I=>by rw[I];exact dO _).trans (η.drew an);have cB:=cB.ex (η.drew an);generalize an.drew=an at ay cB⊢;refine⟨_,cB.at (j:=5) rfl,_,rfl,(cB.cells).take 5,?_⟩;obtain⟨d1,d2⟩:=aJ x (oj ..);refine κ.use (Pn x.1 an ⟨((d1.ex θ).ex ay).cells,d2⟩) ?_;rintro _ aZ ⟨b5,aW,rfl,aM,bY⟩;unfold cZ.cells
 try dsimp only[hA,h7]
 refine⟨(cB.ex aM).at (j:=5) rfl,aT rfl ?_⟩
 skip
 have s1:w.heap.size<ε.heap.size:=(σ.typed rfl).2.2;have Hn:=ay.size;refine((σ.ex ay).ex aM).put (by rfl) C5 λbV fO e4=>?_;refine⟨_,rfl,e4.cells,ω.mk ⟨b5,aW,rfl,((θ.trans ay).trans aM).then fO λi I=>by rw[I];exact dO _,?_⟩⟩;refine(bY.aO fO λy e I=>?_).lower (by omega)
 have:=(bY.ge e).1
 omega
theorem an8(a b c d t:Int)(p:γ)(n m:Nat):Instr.fill (λi=>#[(0,5),(5,1)][i]?) #[(Value.int .i64 0),(Value.int .i64 0),(Value.int .i64 0),(Value.int .i64 0),(Value.slice none 0 0),(Value.int .i64 0)] [(0,(Value.agg #[.int .i64 a,.int .i64 b,.int .i64 c,.int .i64 d,.slice p n m])),(1,(Value.int .i64 t))]=
  some #[.int .i64 a,.int .i64 b,.int .i64 c,.int .i64 d,.slice p n m,.int .i64 t]:=by
 simp[Instr.fill,Value.cells]
theorem alj{w:World}{B bw:Nat}{xs:List (cZ×Int)}{aA:Int}{D:bl}(h:nV w B bw xs aA D)(eh:B<=w.heap.size)(r:cZ)(φ:To w r)(hk:ba.ou w D r.p (bytesOf r))(aS:0<=aA/\aA<1000000):
  FD.C (some ⟨bw,0,none⟩) r.k r.v r.b r.s r.p r.n r.c w (ω λv w'=>
   (¬fz r.k/\v=.tuple #[.int .i64 0,.int .i64 1]/\η w w')\/(fz r.k/\16<=xs.length/\v=.tuple #[.int .i64 0,.int .i64 12]/\η w w')\/
   (fz r.k/\xs.length<16/\v=.tuple #[.int .i64 (aA+1),.int .i64 0]/\∃b5 aW,SY w B bw (xs++[({r with p:=b5,c:=aW},aA+1)]) (aA+1) D w')):=by
 apply FD.ok;unfold FD.main;obtain⟨q,c,⟨h1,ι,aJ⟩,cn⟩:=h;rintro δ ε rfl rfl;have σ:=μ.new (w:=w) (cZ.cells r) e7;have θ:=η.alloc w (.cells (cZ.cells r).toArray e7);unfold cZ.cells at σ θ;generalize w.alloc (.cells #[.int .i64 r.k,.int .i64 r.v,.int .i64 r.b,.int .i64 r.s,.slice r.p r.n r.c] e7)=ε at σ θ⊢
 try dsimp only[nD,bo,jz]
 refine⟨_,rfl,σ.cells,?_⟩;refine κ.use (CB r ε) ?_;rintro _ υ ⟨az,ρ⟩;have df:=θ.trans ρ;rcases az.symm with⟨bH,rfl⟩|⟨bH,rfl⟩
 ·try dsimp only[bL]
  rw[cond_pos (by decide)];exact ω.mk (.inl ⟨bH,rfl,df⟩)
 try dsimp only[bL]
 rw[cond_neg (by decide)];have g1:=h1.ex df;have g2:=ι.ex df;have g3:∀x∈xs,μ υ B dt 1 x.1.p x.1.n x.1.c (bytesOf x.1):=λx J=>(aJ x J).1.ex df;have σ:=σ.ex ρ;refine⟨_,_,_,g1.at (j:=0) rfl,bt (λh=>?_) (λh=>?_)⟩
 ·have:=b6 h
  exact ω.mk (.inr (.inl ⟨bH,by omega,rfl,df⟩))
 have bQ:xs.length<16:=by have:=dn h;omega
 simp only[dG];refine⟨_,g1.at (j:=1) rfl,?_⟩;rw[bS (x:=aA+1) (by omega) (by omega)];refine g1.dv (j:=1) (by show 1<1*2;omega) rfl λao cI Fy=>?_;have AJ:Typed υ sx bw:=(g1.typed rfl).1;have mE:B<=bw:=(g1.typed rfl).2.1;have ach:=(g2.cV cI sx (λi I=>I▸AJ) (by decide)).ex (η.drew ao);have C7:∀x∈xs,μ ao.drew B dt 1 x.1.p x.1.n x.1.c (bytesOf x.1):=λx J=>((g3 x J).cV cI sx (λi I=>I▸AJ) (by decide)).ex (η.drew ao);have tj:=(σ.cV cI sx (λi I=>I▸AJ) (by decide)).ex (η.drew ao);have Fy:=Fy.ex (η.drew ao);have Ir:Kp w ao.drew λi=>i=bw:=(df.aO _).gL (cI.gL ((η.drew ao).aO _));have jE:To ao.drew r:=⟨hk _ (Ir.mono λi _ I=>(cn i).2 (.inl I)),φ.small⟩;clear g1 g2 g3 σ cI;generalize ao.drew=ao at Fy ach C7 tj Ir jE⊢;refine⟨_,_,_,Fy.at (j:=0) rfl,_,rfl,tj.cells,_,Fy.at (j:=1) rfl,?_⟩;refine κ.use (Pn r ao jE) ?_;rintro _ an ⟨b5,aW,rfl,ay,cB⟩;unfold cZ.cells
 try dsimp only[hA]
 have g1:=Fy.ex ay;refine⟨g1.at (j:=1) rfl,g1.at (j:=0) rfl,hh (an8 _ _ _ _ _ _ _ _) ?_⟩;rintro ζ a8 rfl rfl;have aU:=η.alloc an (.cells #[boxed ({r with p:=b5,c:=aW},aA+1)] xK);have oy:bd (an.alloc (.cells #[boxed ({r with p:=b5,c:=aW},aA+1)] xK)) (some ⟨an.heap.size,0,none⟩) [boxed ({r with p:=b5,c:=aW},aA+1)]:=bd.alloc _ xK;unfold boxed at aU oy;dsimp only at aU oy;generalize an.alloc (.cells #[.iface Oc (.agg #[.int .i64 r.k,.int .i64 r.v,.int .i64 r.b,.int .i64 r.s,.slice b5 r.n aW,.int .i64 (aA+1)])] xK)=a8 at aU oy⊢;have OH:=ay.trans aU;have g1:=Fy.ex OH;have g2:=ach.ex OH;have g3:∀x∈xs,μ a8 B dt 1 x.1.p x.1.n x.1.c (bytesOf x.1):=λx J=>(C7 x J).ex OH;have acz:B<=ao.heap.size:=gE eh Ir.size;have PY:B<=a8.heap.size:=gE acz OH.size;have eN:=(cB.ex aU).lower acz;have vf:Kp w a8 λi=>i=bw:=Ir.gL (OH.aO _);refine⟨g1.at (j:=0) rfl,?_⟩;refine al2 (al3 g2 PY [boxed ({r with p:=b5,c:=aW},aA+1)] oy rfl (λy ag=>by simp only[ma]at ag;subst ag;rfl) rfl (by omega) (by omega) (λbj bP bV g8 fO s5=>?_));have YL:∀i,(∃x,q=some x/\x.block=i)->Typed a8 xK i:=λi⟨x,J,I⟩=>I▸(g2.typed J).1;have g1:=g1.cV fO xK YL (by decide);have e4:=eN.cV fO xK YL (by decide);have g3:∀x∈xs,μ bV B dt 1 x.1.p x.1.n x.1.c (bytesOf x.1):=λx J=>(g3 x J).cV fO xK YL (by decide);have AJ:Typed bV sx bw:=(g1.typed rfl).1;refine g1.dv (j:=0) (by show 0<1*2;omega) rfl λbW iq g9=>?_;refine⟨_,g9.at (j:=1) rfl,ω.mk (.inr (.inr ⟨bH,bQ,rfl,b5,aW,_,⟨bj,bP,⟨?_,?_,?_⟩,λi=>og⟩,?_,?_⟩))⟩
 ·rw[fw];exact g9
 ·rw[fw,ss];exact g8.cV iq sx (λi I=>I▸AJ) (by decide)
 ·intro x J;rcases iC.1 J with J|J
  ·exact⟨(g3 x J).cV iq sx (λi I=>I▸AJ) (by decide),(aJ x J).2⟩
  ·simp only[ma]at J;subst J;exact⟨e4.cV iq sx (λi I=>I▸AJ) (by decide),φ.small.len,φ.small.gC,φ.small.wf⟩
 ·have akw:Kp w bV λi=>i=bw\/∃x,q=some x/\x.block=i:=(vf.mono λi _ I=>.inl I).gL (fO.mono λi _ I=>.inr I);exact(akw.gL (iq.mono λi _ I=>.inl I)).mono λi _ I=>(cn i).2 I
 ·intro i I;rcases I with rfl|⟨x,J,rfl⟩
  ·exact .inl ((cn _).2 (.inl rfl))
  ·rcases s5 with h|h
   ·exact .inl ((cn _).2 (.inr ⟨x,h▸J,rfl⟩))
   ·exact .inr (gE vf.size (h x J))
theorem avh{p:γ}{m l s:Nat}{x:Addr}(h:dL p m l s=some x):∃a,p=some a/\x.block=a.block:=by
 unfold dL at h;split at h
 ·exact⟨x,h,rfl⟩
 ·cases p with
  |none=>cases h
  |some a=>cases h;exact⟨a,rfl,zv a _⟩
theorem ake{w:World}{B bw:Nat}{x:cZ×Int}{xs:List (cZ×Int)}{aA:Int}{D:bl}(h:nV w B bw (x::xs) aA D):FB.C (some ⟨bw,0,none⟩) w (ω λv w'=>v=.int .i64 0/\SY w B bw xs aA D w'):=by
 apply FB.ok;unfold FB.main;refine κ.use (Zy h) ?_;rintro _ ε ⟨b5,aW,rfl,θ,_⟩;unfold cZ.cells
 try dsimp only[bo,ca,cT,cU,n1,bL,hA,h7]
 rintro δ χ rfl rfl;have bh:=μ.new (w:=ε) lQ e7;have ad:=η.alloc ε (.cells lQ.toArray e7);unfold lQ at bh ad;generalize ε.alloc (.cells #[.int .i64 0,.int .i64 0,.int .i64 0,.int .i64 0,.slice none 0 0] e7)=χ at bh ad⊢;refine aT rfl ?_
 skip
 refine bh.put (by rfl) C5 λao cI cJ=>?_;rw[cond_neg (by decide)];have iF:η w ao:=θ.trans (ad.then cI λi I=>by rw[I];exact dO _);obtain⟨q,c,⟨g1,g2,g3⟩,cn⟩:=h.ex iF;refine⟨_,_,_,g1.at (j:=0) rfl,aT (by simp only[kU];omega) ?_⟩;have AJ:Typed ao sx bw:=(g1.typed rfl).1;refine g1.dv (j:=0) (by show 0<1*2;omega) rfl λan dT g5=>?_;refine ω.mk ⟨rfl,_,⟨dL q c 1 1,c-1,⟨?_,?_,?_⟩,λi=>og⟩,((iF.aO _).gL dT).mono λi _ I=>(cn i).2 (.inl I),λi I=>.inl ((cn i).2 ?_)⟩
 ·exact g5
 ·have:=(g2.cV dT sx (λi I=>I▸AJ) (by decide)).tail (by simp) (by decide)
  simpa using this
 ·intro y ag
  have:=g3 y (ie _ ag)
  exact⟨this.1.cV dT sx (λi I=>I▸AJ) (by decide),this.2⟩
 ·rcases I with I|⟨x,J,I⟩
  ·exact .inl I
  ·obtain⟨a,aR,um⟩:=avh J;exact .inr ⟨a,aR,um.symm.trans I⟩
end Go.Proofs.YtcpdfhkhaekekaaGreat.G.b9
namespace Go.Proofs.YtcpdfhkhaekekaaGreat.G.aQ
open Go.bJ Go.RowKit cF dI eI cS
structure aQ where
 s:Int
 k:Int
 d:ba.du
 R:bZ
 st:bA.hU
 seq:Int
 used:Nat
 dl:List gd
 mm:Bool
 clock:Int
 stamps:aq
structure Ask where
 k:Int
 v:Int
 b:Int
 s:Int
 bs:aq
structure gj where
 e:Int
 id:Int
 bs:aq
 pr:aq
def jn(R:bZ):Nat:=(gK (used R)).length
def aQ.cap(m:aQ):Int:=(m.s-4)*m.k
def om(k:Int)(x:dB):Int:=40+(x.1*k+x.2)
def hS(k:Int)(d:ba.du)(x:dB):aq:=d.now.getD (om k x).toNat []
def p9(m:aQ)(d:gd):aQ:={m with dl:=m.dl++[d],mm:=true}
def fh:gj:=⟨0,0,[],[]⟩
def fail(m:aQ)(e:Int):aQ×gj:=(m,⟨e,0,[],[]⟩)
def Bo(st:bA.hU):aq->bA.hU
 |[]=>st
 |x::r=>Bo (bA.o6 st x).1 r
def r9(m:aQ):aQ:=
 {m with d:=wb (lC m.d) m.s m.k (m.seq+1) m.R,seq:=m.seq+1,used:=0,dl:=[],mm:=false,st:=Bo m.st (k6 m.s.toNat (lays (used m.R)) [m.st.head])}
def y6(m:aQ):aQ:=
 if m.mm=false then m
 else if(16-m.used)*6<m.dl.length then r9 m
 else{m with d:=lC (D3 (lC m.d) m.seq m.used m.dl),used:=m.used+cS.parts m.dl.length,dl:=[],mm:=false}
def gz(m:aQ)(bs:aq)(spare:Int):aQ×dB:=
 let n:=bA.next m.st spare
 let x:dB:=(n.2.2.1.toNat,n.2.2.2.toNat)
 ({m with st:=n.1,d:=ba.dv m.d (om m.k x) bs,stamps:=m.stamps.set x.1 m.clock},x)
def pN(m:aQ):aq:=m.stamps.map λt=>min2 (m.clock-t) 65535
def fA(m:aQ)(g:Nat):List dB:=(lays (used m.R)).filter λx=>decide ((x.1:Int)=(g:Int))
def ik(m:aQ):List dB->aQ×List dB
 |[]=>(m,[])
 |x::r=>((ik (gz m (hS m.k m.d x) 0).1 r).1,(gz m (hS m.k m.d x) 0).2::(ik (gz m (hS m.k m.d x) 0).1 r).2)
def ra(m:aQ):aQ:=match tn m.k (iz m.s.toNat (lays (used m.R))) (pN m) m.st.head with
 |none=>r9 m
 |some g=>r9 {(ik m (fA m g)).1 with R:=l8 m.R (fA m g) (ik m (fA m g)).2}
def Kw(m:aQ)(a:Ask):aQ×gj:=match gB m.R a.v with
 |none=>fail m 4
 |some e=>
  if e.1=2 then fail m 8
  else if a.b<0\/e.2.1<=a.b then fail m 5
  else if a.bs.length≠64 then fail m 6
  else if m.cap<(jn m.R:Int)+1 then fail m 9
  else if bA.room m.st 2=false then fail m 12
  else
   let p:=gz m a.bs 2
   (p9 {p.1 with R:=j5 m.R a.v.toNat a.b.toNat (some p.2)} ⟨4,a.v,0,a.b,p.2.1,p.2.2⟩,fh)
def fi(m:aQ)(a:Ask):aQ×gj:=
 if a.k=1 then
  (if 1<=a.s/\a.s<=32 then(match mi m.R with
   |none=>fail m 7
   |some i=>(p9 {m with R:=m.R.set i (1,a.s,List.replicate a.s.toNat none)} ⟨1,i,0,a.s,0,0⟩,{fh with id:=i}))else fail m 5)
 else if a.k=2 then(match gB m.R a.v with
  |none=>fail m 4
  |some _=>(p9 {m with R:=m.R.set a.v.toNat (0,0,[])} ⟨2,a.v,0,0,0,0⟩,fh))
 else if a.k=3 then(match gB m.R a.v with
  |none=>fail m 4
  |some e=>(match mi m.R with
   |none=>fail m 7
   |some i=>(p9 {m with R:=m.R.set i (2,e.2.1,e.2.2)} ⟨3,a.v,i,0,0,0⟩,{fh with id:=i})))
 else if a.k=4 then(match gB m.R a.v with
  |none=>fail m 4
  |some e=>if a.b<0\/e.2.1<=a.b then fail m 5 else(match(e.2.2[a.b.toNat]?).join with
   |none=>(m,{fh with bs:=ba.gN})
   |some x=>(m,{fh with bs:=hS m.k m.d x})))
 else if a.k=5 then Kw m a
 else if a.k=6 then(match gB m.R a.v with
  |none=>fail m 4
  |some e=>if e.1=2 then fail m 8 else if a.b<0\/e.2.1<=a.b then fail m 5
   else(p9 {m with R:=j5 m.R a.v.toNat a.b.toNat none} ⟨5,a.v,0,a.b,0,0⟩,fh))
 else if a.k=7 then(y6 m,fh)
 else if a.k=8 then(m,{fh with pr:=[(jn m.R:Int),m.cap]})
 else(match gB m.R a.v with
  |none=>fail m 4
  |some e=>(m,{fh with pr:=[e.1,e.2.1]}))
def tick(m:aQ):aQ:={m with clock:=m.clock+1}
structure Inv(m:aQ):Prop where
 gY:6<=m.s/\m.s<=24/\2<=m.k/\m.k<=16
 len:m.R.length=8
 ok:∀e∈m.R,mG e
 fit:mN m.s m.k m.R
 fz:bA.Good m.st
 hi:m.st.hi=m.s
 blocks:m.st.blocks=m.k
 two:2<=m.st.free.length
 free:∀x∈used m.R,(x.1:Int)∉m.st.free
 head:∀x∈used m.R,(x.1:Int)=m.st.head->(x.2:Int)<m.st.used
 dev:ba.Good m.d
 off:m.d.off=false
 after:m.d.after=-1
 nC:(m.d.now.length:Int)=40+m.s*m.k
 pA:m.stamps.length=m.s.toNat
 rR:∀t∈m.stamps,0<=t/\t<=m.clock
 dl:∀d∈m.dl,d.wf/\ix d=0
 ot:m.used<=16
 seq:1<=m.seq
theorem ai3{R:bZ}{i:Nat}{e:gn}{x:dB}(h:x∈used (R.set i e)):x∈used R\/some x∈e.2.2:=by
 obtain⟨a,aR,J⟩:=xh.1 h;rcases qh aR with aR|rfl
 ·exact .inl (xh.2 ⟨a,aR,J⟩)
 ·exact .inr J
theorem ar0{R wI:bZ}(h:∀x∈used wI,x∈used R):jn wI<=jn R:=
 ry _ _ (xk _) λx J=>(kv _ _).2 (h x ((kv _ _).1 J))
theorem ar1{R wI:bZ}{y:dB}(h:∀x∈used wI,x∈used R\/x=y):jn wI<=jn R+1:=by
 have:=ry (gK (used wI)) (y::gK (used R)) (xk _) λx J=>by
  rcases h x ((kv _ _).1 J)with h|rfl
  ·exact ie _ ((kv _ _).2 h)
  ·exact oj
 simpa[jn]using this
theorem aer{s k:Int}(h:6<=s/\s<=24/\2<=k/\k<=16):may s k=true:=vQ.2 h
theorem QD{s k:Int}(h:6<=s/\s<=24/\2<=k/\k<=16)(x:dB):Ji s k (some x)=true↔(x.1:Int)<s/\(x.2:Int)<k:=by
 rw[Mv];simp only[lf,qI];constructor
 ·rintro⟨ι,aJ⟩;refine⟨?_,ι⟩;by_cases h1:(x.1:Int)<s
  ·exact h1
  ·have:=JP (show s<=(x.1:Int)by omega) (show 0<=k by omega)
   omega
 ·rintro⟨h1,ι⟩;refine⟨ι,?_⟩
  have:=JP (show(x.1:Int)+1<=s by omega) (show 0<=k by omega)
  have e:((x.1:Int)+1)*k=x.1*k+k:=by rw[Int.add_mul,Int.one_mul]
  omega
theorem mC{s k:Int}(h:6<=s/\s<=24/\2<=k/\k<=16){R:bZ}:mN s k R↔mv R/\(∀x∈used R,(x.1:Int)<s/\(x.2:Int)<k)/\(jn R:Int)<=(s-4)*k:=by unfold mN Ey;rw[Xw];exact⟨λ⟨⟨_,ι,aJ⟩,cK⟩=>⟨ι,λx J=>(QD h x).1 (aJ x J),cK⟩,λ⟨ι,aJ,cK⟩=>⟨⟨aer h,ι,λx J=>(QD h x).2 (aJ x J)⟩,cK⟩⟩
structure Same(m m':aQ):Prop where
 s:m'.s=m.s
 k:m'.k=m.k
 st:m'.st=m.st
 d:m'.d=m.d
 seq:m'.seq=m.seq
 used:m'.used=m.used
 clock:m'.clock=m.clock
 stamps:m'.stamps=m.stamps
theorem Q4{e:gn}(h:∀q∈e.2.2,kH q)(ab:r2 e):mG e:=by
 have h1:=ab.1;have aJ:=ab.2.2.1;have cK:=ab.2.2.2
 have:0<=e.2.1/\e.2.1<256:=by
  by_cases aF:e.1=0
  ·rw[aJ aF];omega
  ·have:=cK aF;omega
 exact⟨h,by omega,⟨ab.2.1.1,by have:=ab.2.1.2;omega⟩,this⟩
theorem Inv.set{m m':aQ}(h:Inv m)(ab:Same m m'){i:Nat}{e:gn}(iU:m'.R=m.R.set i e)(eU:r2 e)(n4:∀x,some x∈e.2.2->x∈used m.R)(ym:∀d∈m'.dl,d.wf/\ix d=0):Inv m':=by
 have jF:∀x∈used m'.R,x∈used m.R:=λx J=>by
  rw[iU]at J;rcases ai3 J with h|h
  ·exact h
  ·exact n4 x h
 obtain⟨f1,f2,f3⟩:=(mC h.gY).1 h.fit;have hle:=ar0 jF;refine⟨by rw[ab.s,ab.k];exact h.gY,by rw[iU,hQ];exact h.len,λa aR=>?_,?_,by rw[ab.st];exact h.fz,by rw[ab.st,ab.s];exact h.hi,by rw[ab.st,ab.k];exact h.blocks,by rw[ab.st];exact h.two,λx J=>by rw[ab.st];exact h.free x (jF x J),λx J=>by rw[ab.st];exact h.head x (jF x J),
  by rw[ab.d];exact h.dev,by rw[ab.d];exact h.off,by rw[ab.d];exact h.after,by rw[ab.d,ab.s,ab.k];exact h.nC,by rw[ab.stamps,ab.s];exact h.pA,by rw[ab.stamps,ab.clock];exact h.rR,ym,by rw[ab.used];exact h.ot,by rw[ab.seq];exact h.seq⟩
 ·rw[iU]at aR;rcases qh aR with aR|rfl
  ·exact h.ok a aR
  ·refine Q4 (λq aH=>?_) eU;cases q with
   |none=>trivial
   |some x=>
    obtain⟨db,ej,mX⟩:=xh.1 (n4 x aH);exact(h.ok db ej).1 _ mX
 ·rw[ab.s,ab.k];refine(mC h.gY).2 ⟨λa aR=>?_,λx J=>f2 x (jF x J),by omega⟩;rw[iU]at aR;rcases qh aR with aR|rfl
  ·exact f1 a aR
  ·exact eU
theorem abz{m:aQ}(h:Inv m){d:gd}(hw:d.wf)(π:ix d=0):∀x∈m.dl++[d],x.wf/\ix x=0:=λx J=>by
 rcases iC.1 J with J|J
 ·exact h.dl x J
 ·simp only[ma]at J;subst J;exact⟨hw,π⟩
structure CI(st:bA.hU)(U:List dB):Prop where
 free:∀x∈U,(x.1:Int)∉st.free
 head:∀x∈U,(x.1:Int)=st.head->(x.2:Int)<st.used
structure o1(m:aQ):Prop where
 gY:6<=m.s/\m.s<=24/\2<=m.k/\m.k<=16
 fz:bA.Good m.st
 hi:m.st.hi=m.s
 blocks:m.st.blocks=m.k
theorem Inv.base{m:aQ}(h:Inv m):o1 m:=⟨h.gY,h.fz,h.hi,h.blocks⟩
theorem Inv.Kc{m:aQ}(h:Inv m):CI m.st (used m.R):=⟨h.free,h.head⟩
structure OW(m m':aQ)(x:dB)(bs:aq)(U:List dB):Prop where
 base:o1 m'
 ok:CI m'.st (x::U)
 new:x∉U
 lt:(x.1:Int)<m.s/\(x.2:Int)<m.k
 s:m'.s=m.s
 k:m'.k=m.k
 R:m'.R=m.R
 d:m'.d=ba.dv m.d (om m.k x) bs
 sub:∀y∈m'.st.free,y∈m.st.free
 head:m'.st.head=x.1
 from_:(x.1:Int)=m.st.head\/(x.1:Int)∈m.st.free
 dl:m'.dl=m.dl
 seq:m'.seq=m.seq
 ot:m'.used=m.used
 clock:m'.clock=m.clock
 stamps:m'.stamps=m.stamps.set x.1 m.clock
 mm:m'.mm=m.mm
 gC:(bA.full m.st=true/\m'.st.free.length+1=m.st.free.length/\m'.st.used=1)\/(bA.full m.st=false/\m'.st.free=m.st.free/\m'.st.used=m.st.used+1)
theorem Rf{m:aQ}(h:o1 m){U:List dB}(jF:CI m.st U){k:Int}(hk:0<=k)(φ:bA.room m.st k=true)(bs:aq):OW m (gz m bs k).1 (gz m bs k).2 bs U:=by
 obtain⟨g1,g2,g3,g4,g5⟩:=bA.Sw h.fz hk φ;have Qi:bA.next m.st k=({bA.kz m.st with used:=(bA.kz m.st).used+1},0,(bA.kz m.st).head,(bA.kz m.st).used):=by unfold bA.next;rw[aL (by omega),aN φ]
 have Dh:=bA.asD h.fz k;rw[Qi]at Dh;have Je:=g1.used.1;have ea:=g1.head.2;have azZ:=h.hi;have o9:=h.blocks;have aP:(((bA.kz m.st).head.toNat:Nat):Int)=(bA.kz m.st).head:=Np g2;have bM:(((bA.kz m.st).used.toNat:Nat):Int)=(bA.kz m.st).used:=Np Je;unfold gz;rw[Qi];by_cases bm:bA.full m.st=true
 ·obtain⟨x,r,Qx⟩:=bA.UU h.fz hk φ bm;have aS:bA.kz m.st={m.st with head:=x,used:=0,free:=r}:=by unfold bA.kz;rw[aN bm,Qx];rfl
  rw[aS]at g1 g2 g3 g4 g5 Dh Je ea aP bM⊢;dsimp only at g1 g2 g3 g4 g5 Dh Je ea aP bM⊢;have J:x∈m.st.free:=by rw[Qx];exact oj
  have n4:∀y∈r,y∈m.st.free:=λy ag=>by rw[Qx];exact ie _ ag
  refine⟨⟨h.gY,Dh,h.hi,h.blocks⟩,⟨λy ag=>?_,λy ag he=>?_⟩,λhu=>jF.free _ hu (by dsimp only;rw[aP];exact J),⟨by dsimp only;omega,by dsimp only;omega⟩,rfl,rfl,rfl,rfl,n4,aP.symm,.inr (by dsimp only;rw[aP];exact J),rfl,rfl,rfl,rfl,rfl,rfl,.inl ⟨bm,by rw[Qx];rfl,by dsimp only;omega⟩⟩
  ·rcases fB.1 ag with rfl|ag
   ·dsimp only;rw[aP];exact Dh.apart
   ·exactλhm=>jF.free y ag (n4 _ hm)
  ·rcases fB.1 ag with rfl|ag
   ·dsimp only;omega
   ·exact absurd (by rw[he];exact J) (jF.free y ag)
 ·have bm:bA.full m.st=false:=by simpa using bm
  have aS:bA.kz m.st=m.st:=by unfold bA.kz;rw[aL (by simp[bm])]
  rw[aS]at g1 g2 g3 g4 g5 Dh Je ea aP bM⊢;dsimp only at Dh⊢;refine⟨⟨h.gY,Dh,h.hi,h.blocks⟩,⟨λy ag=>?_,λy ag he=>?_⟩,λhu=>?_,⟨by dsimp only;omega,by dsimp only;omega⟩,rfl,rfl,rfl,rfl,λy ag=>ag,aP.symm,.inl aP,rfl,rfl,rfl,rfl,rfl,rfl,.inr ⟨bm,rfl,rfl⟩⟩
  ·rcases fB.1 ag with rfl|ag
   ·dsimp only;rw[aP];exact h.fz.apart
   ·exact jF.free y ag
  ·rcases fB.1 ag with rfl|ag
   ·dsimp only;omega
   ·have:=jF.head y ag he
    dsimp only;omega
  ·have:=jF.head _ hu (by dsimp only;exact aP)
   dsimp only at this;omega
structure jh(d d':ba.du):Prop where
 fz:ba.Good d'
 off:d'.off=d.off
 after:d'.after=d.after
 len:d'.now.length=d.now.length
 I:∀i,40<=i->d'.now[i]?=d.now[i]?
theorem jh.refl{d:ba.du}(h:ba.Good d):jh d d:=⟨h,rfl,rfl,rfl,λ_ _=>rfl⟩
theorem jh.trans{a b c:ba.du}(h:jh a b)(k:jh b c):jh a c:=⟨k.fz,k.off.trans h.off,k.after.trans h.after,k.len.trans h.len,λi I=>(k.I i I).trans (h.I i I)⟩
theorem jh.dv{a d:ba.du}(h:jh a d)(rk:40<=a.now.length){i:Int}(I:0<=i/\i<40){s:aq}(ab:ba.lx s):jh a (ba.dv d i s):=
 h.trans ⟨ba.XQ h.fz (by rw[h.len];omega) ab,rfl,rfl,hQ,λj ψ=>by show(d.now.set i.toNat s)[j]?=_;rw[List.getElem?_set_ne (by omega)]⟩
theorem ab6{d:ba.du}(h:ba.Good d):ba.Good (lC d):=⟨rfl,h.gC,h.now,h.now,(λp hp=>by cases hp),h.after⟩
theorem jh.flush{a d:ba.du}(h:jh a d):jh a (lC d):=⟨ab6 h.fz,h.off,h.after,h.len,h.I⟩
theorem afI{a:ba.du}(rk:40<=a.now.length):∀(l:List aq)(d:ba.du)(i:Int),jh a d->0<=i->i+l.length<=40->(∀s∈l,ba.lx s)->jh a (nM d i l)
 |[],d,i,h,_,_,_=>h
 |x::r,d,i,h,aF,h1,ab=>afI rk r _ _ (h.dv rk (by simp at h1;omega) (ab x (by simp))) (by omega) (by simp at h1;omega) λs hm=>ab s (ie _ hm)
theorem arS{s k q:Int}{R:bZ}(aH:vV q)(bm:mN s k R)(aG:∀e∈R,mG e)(dD:R.length=8):∀bw∈jg s k q (fg k R),ba.lx bw:=λbw h=>⟨WU bw h,WV aH bm aG dD bw h⟩
theorem amD{R:bZ}(dD:R.length=8)(h:mv R)(k:Int):cF.fW (fg k R).length<=11:=by
 have:=JB dD h k
 unfold cF.fW;omega
theorem auW{a d:ba.du}(h:jh a d)(rk:40<=a.now.length){s k q:Int}{R:bZ}(aH:vV q)(bm:mN s k R)(aG:∀e∈R,mG e)(dD:R.length=8):jh a (wb d s k q R):=by
 have ab:=arS aH bm aG dD;have ak:=LS s k q (fg k R);have π:=amD dD bm.1.2.1 k;have aR:=aay q;unfold wb;refine jh.flush (jh.dv (jh.flush (afI rk _ _ _ h (by omega) ?_ λx J=>ab x (X2 J))) rk (by omega) (ab _ ?_))
 ·rw[G6,ak];omega
 ·cases gy:jg s k q (fg k R)with
  |nil=>rw[gy]at ak;simp at ak;omega
  |cons x r=>exact oj
theorem avx{q:Int}{u:Nat}{l:List gd}(h8:l.length<=6)(ak:∀d∈l,d.wf/\ix d=0):ba.lx (lk (rP q u l)):=
 ⟨y5 (by rw[RV];omega),J6 (RU (λd ah=>(ak d ah).1) λd ah=>(ak d ah).2)⟩
theorem agC{a d:ba.du}(h:jh a d)(rk:40<=a.now.length)(q:Int)(u:Nat){l:List gd}(ak:∀d∈l,d.wf/\ix d=0):∀n:Nat,u+n<=16->jh a (HB d q u l (List.range n))
 |0,_=>h
 |n+1,ar=>by rw[v8,agD,xC];exact(agC h rk q u ak n (by omega)).dv rk (by omega) (avx (by rw[TS];unfold nB;omega) λx J=>ak x (K1 J))
theorem agB{a d:ba.du}(h:jh a d)(rk:40<=a.now.length)(q:Int){u:Nat}{l:List gd}(ak:∀d∈l,d.wf/\ix d=0)(ar:u+cS.parts l.length<=16):jh a (D3 d q u l):=agC h rk q u ak _ ar
theorem Hr{s k:Int}(h:6<=s/\s<=24/\2<=k/\k<=16){x:dB}(J:(x.1:Int)<s/\(x.2:Int)<k):40<=om k x/\om k x<40+s*k:=by
 have:=((QD h x).2 J)
 rw[Mv]at this;simp only[lf,qI]at this;unfold om;have aF:0<=(x.1:Int)*k:=yZ (by omega) (by omega);omega
theorem auZ{k:Int}(hk:0<k){x y:dB}(J:(x.2:Int)<k)(ag:(y.2:Int)<k)(h:om k x=om k y):x=y:=by
 unfold om at h;have aP:(x.1:Int)*k+x.2=y.1*k+y.2:=by omega
 have aw:((x.1:Int)*k+x.2)/k=x.1:=by rw[Int.add_comm,X3 _ _ (by omega),Nk (by omega) J];omega
 have a2:((y.1:Int)*k+y.2)/k=y.1:=by rw[Int.add_comm,X3 _ _ (by omega),Nk (by omega) ag];omega
 have h1:(x.1:Int)=y.1:=by rw[<-aw,<-a2,aP]
 rw[h1]at aP;have ι:(x.2:Int)=y.2:=by omega
 exact Cg (by omega) (by omega)
theorem jh.sec{a d:ba.du}(h:jh a d){k:Int}(hk:0<=k)(x:dB):hS k d x=hS k a x:=by have aF:0<=(x.1:Int)*k:=yZ (by omega) hk;unfold hS;rw[List.getD_eq_getElem?_getD,List.getD_eq_getElem?_getD,h.I _ (by unfold om;omega)]
theorem Yj{d:ba.du}{s k:Int}(h:6<=s/\s<=24/\2<=k/\k<=16)(ak:(d.now.length:Int)=40+s*k){x:dB}(J:(x.1:Int)<s/\(x.2:Int)<k)(bs:aq){y:dB}(ag:(y.1:Int)<s/\(y.2:Int)<k):hS k (ba.dv d (om k x) bs) y=if y=x then bs else hS k d y:=by
 have h1:=Hr h J;have ι:=Hr h ag;unfold hS;show(d.now.set (om k x).toNat bs).getD _ _=_;rw[List.getD_eq_getElem?_getD,List.getD_eq_getElem?_getD,List.getElem?_set];by_cases e:y=x
 ·subst e;rw[aN rfl,aN (by omega),aN rfl];rfl
 ·rw[aL (λbM=>e (auZ (by omega) ag.2 J.2 (by omega))),aL e]
end Go.Proofs.YtcpdfhkhaekekaaGreat.G.aQ
