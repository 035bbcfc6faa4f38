/- The walk of the functions, and the plain laws of the model: part of the proof. Conditions: none. -/
import Derived.Test.YtcpdfhkhaekekaaGreatA11
set_option linter.unusedVariables false
set_option linter.unusedSimpArgs false
namespace Go.Proofs.YtcpdfhkhaekekaaGreat.G.eh
open Go.bO Go.RowKit
def pS(d:fx):an:=[d.k,d.v*16+d.ε,d.b,d.x,d.y]
def zK(d:fx):an:=if hS d=0 then pS d else[]
structure Xd(d:fx):Prop where
 k:1<=d.k/\d.k<6
 v:0<=d.v/\d.v<8
 ε:0<=d.ε/\d.ε<8
 b:0<=d.b/\d.b<33
 x:0<=d.x/\d.x<24
 y:0<=d.y/\d.y<16
theorem ZB{d:fx}(hw:d.wf)(h:hS d=0):Xd d:=by
 obtain⟨k,v,ε,b,x,y⟩:=d;obtain⟨I,ah⟩:=hw;unfold qw at I ah;dsimp only at I ah;unfold hS at h;split at h
 ·rename_i hk;split at h
  ·rename_i aB;split at h
   ·rename_i aj;obtain⟨bd,fG,xc,xd⟩:=aj;simp only[nU,kx,po]at hk;have nO:k=1\/k=2\/k=3\/k=4\/k=5:=by omega
    rcases nO with rfl|rfl|rfl|rfl|rfl<;>simp[ji,nU,whole,s0,sZ,rU,rV]at aB bd fG xc xd<;>constructor<;>dsimp only<;>omega
   ·cases h
  ·cases h
 ·cases h
theorem aqI:∀(v ε:Fin 16),IntKind.i64.wrap ((BitVec.ofInt IntKind.i64.bits (IntKind.i64.wrap ((v.val:Int)*2^(min 4 IntKind.i64.bits)))|||BitVec.ofInt IntKind.i64.bits (ε.val:Int)).toNat:Int)=(v.val:Int)*16+(ε.val:Int):=by decide+kernel
theorem U4{v ε:Int}(aJ:0<=v/\v<16)(aB:0<=ε/\ε<16):IntKind.i64.wrap ((BitVec.ofInt IntKind.i64.bits (IntKind.i64.wrap (v*2^(min 4 IntKind.i64.bits)))|||BitVec.ofInt IntKind.i64.bits ε).toNat:Int)=v*16+ε:=by obtain⟨m,rfl⟩:=eH aJ.1;obtain⟨n,rfl⟩:=eH aB.1;exact aqI ⟨m,by omega⟩ ⟨n,by omega⟩
theorem ajs:∀(x:Fin 256),IntKind.i64.wrap (IntKind.u8.wrap ((BitVec.ofInt IntKind.u8.bits (x.val:Int)&&&BitVec.ofInt IntKind.u8.bits 15).toNat:Int))=(x.val:Int)%16:=by decide+kernel
theorem ajr{x:Int}(h:qw x):IntKind.i64.wrap (IntKind.u8.wrap ((BitVec.ofInt IntKind.u8.bits x&&&BitVec.ofInt IntKind.u8.bits 15).toNat:Int))=x%16:=by obtain⟨n,rfl⟩:=eH h.1;exact ajs ⟨n,by have:=h.2;omega⟩
theorem asF:∀(x:Fin 256),IntKind.i64.wrap (Int.fdiv (x.val:Int) (2^(min 4 IntKind.u8.bits)))=(x.val:Int)/16:=by decide+kernel
theorem asE{x:Int}(h:qw x):IntKind.i64.wrap (Int.fdiv x (2^(min 4 IntKind.u8.bits)))=x/16:=by obtain⟨n,rfl⟩:=eH h.1;exact asF ⟨n,by have:=h.2;omega⟩
theorem ak5{d:fx}(h:Xd d):Bytes (pS d):=by
 intro z aL
 have:=h.k;have:=h.v;have:=h.ε;have:=h.b;have:=h.x;have:=h.y
 simp only[pS,fA,n1,oS]at aL;omega
theorem ahZ{d:fx}(af:d.wf)(w:World):Dw.C d.k d.v d.ε d.b (cp d.x) (cp d.y) w (χ λv w'=>∃p c,v=.tuple #[.slice p (zK d).length c,.int .i64 (hS d)]/\η w w'/\μ w' w.heap.size dk 1 p (zK d).length c (bj (zK d))):=by
 apply Dw.ok;unfold Dw.main;rintro δ γ rfl rfl;have ρ:=μ.new (w:=w) d.cells fk;have ζ:=η.alloc w (.cells d.cells.toArray fk);unfold fx.cells at ρ ζ;generalize w.alloc (.cells #[.int .i64 d.k,.int .i64 d.v,.int .i64 d.ε,.int .i64 d.b,.complex .f64 (cp d.x) (cp d.y)] fk)=γ at ρ ζ⊢;refine⟨d.cells.toArray,rfl,ρ.cells,?_⟩;refine κ.use (A1 af _) ?_;rintro _ τ ⟨rfl,σ⟩
 try dsimp only[bH]
 have c7:=ζ.trans σ;have ai:=ρ.ex σ;refine bz (λh=>?_) λh=>?_
 ·have π:¬hS d=0:=by simpa using h
  refine χ.mk ⟨none,0,?_,c7,?_⟩
  ·unfold zK;rw[aM π];rfl
  ·unfold zK;rw[aM π];exact μ.nil _ _ _ _
 ·have π:hS d=0:=by simpa using h
  have bg:=ZB af π;have ano:=bg.v;have yt:=bg.ε;have axa:=bg.k;have aw9:=bg.b;have NK:=bg.x;have axb:=bg.y;refine⟨d.k,ai.at (by rfl),d.v,ai.at (by rfl),d.ε,ai.at (by rfl),d.b,ai.at (by rfl),cp d.x,cp d.y,ai.at (by rfl),?_⟩;obtain⟨_,_,_,avn,_,_⟩:=Ju af.1;obtain⟨_,_,_,ty,_,_⟩:=Ju af.2;rw[avn]
  try dsimp only[bk]
  refine bL (bB (by show(0:Int)<=d.x;omega)) (bL (bB (by show d.x<=255;omega)) ?_);refine⟨cp d.x,cp d.y,ai.at (by rfl),?_⟩;rw[ty]
  try dsimp only[bk]
  refine bL (bB (by show(0:Int)<=d.y;omega)) (bL (bB (by show d.y<=255;omega)) ?_);rw[U4 ⟨ano.1,by omega⟩ ⟨yt.1,by omega⟩,wi,wi,wi,K7 (a:=d.k) (by omega) (by omega),K7 (a:=d.v*16+d.ε) (by omega) (by omega),K7 (a:=d.b) (by omega) (by omega)];rintro ae az rfl rfl;have cx:=μ.alloc (w:=τ) (bj (pS d)) dk 1 5 rfl;have aA:=η.alloc τ (.cells (bj (pS d)).toArray dk);refine χ.mk ⟨some ⟨τ.heap.size,0,none⟩,5,?_,c7.trans aA,?_⟩
  ·unfold zK;rw[aS π,π];rfl
  ·unfold zK;rw[aS π];exact cx.lower c7.size
def uh:an->fx
 |[a,b,c,d,e]=>⟨a,b/16,b%16,c,d,e⟩
 |_=>⟨0,0,0,0,0,0⟩
theorem Y7{xs:an}(h:Bytes xs):(uh xs).wf:=by
 unfold uh;split
 ·exact⟨h _ (by simp),h _ (by simp)⟩
 ·exact⟨⟨by decide,by decide⟩,⟨by decide,by decide⟩⟩
def ui(xs:an):aU:=if hS (uh xs)=0 then(uh xs).cells else l4
theorem alD{xs:an}(h:xs.length=5):∃a b c d e,xs=[a,b,c,d,e]:=by
 match xs,h with
 |[a,b,c,d,e],_=>exact⟨a,b,c,d,e,rfl⟩
theorem awf:∀z∈l4,z.oneCell'=true:=cells_one
theorem RQ(d:fx):∀z∈d.cells,z.oneCell'=true:=cells_one
theorem ahS{p:J}{c:Nat}{xs:an}{w:World}(π:a7 w p (bj xs))(ax:xs.length=5)(ψ:Bytes xs):
  Dv.C p 5 c w (χ λv w'=>v=.tuple #[.agg (ui xs).toArray,.int .i64 (if hS (uh xs)=0 then 0 else 2)]/\η w w'):=by
 apply Dv.ok;unfold Dv.main;rintro δ γ rfl rfl;have ρ:=μ.new (w:=w) l4 fk;have ζ:=η.alloc w (.cells l4.toArray fk);unfold l4 at ρ ζ;have ej:w.heap.size<=w.heap.size:=ew _;generalize wW:w.heap.size=δ at ρ ej⊢;generalize w.alloc (.cells #[.int .i64 0,.int .i64 0,.int .i64 0,.int .i64 0,.complex .f64 0 0] fk)=γ at ρ ζ⊢;have aoP:=Y7 ψ;obtain⟨a,b,c2,d,e,rfl⟩:=alD ax;have BA:=(π.ex ζ).ex (η.drew γ);obtain⟨q,rfl,n3⟩:=BA.one (v:=.int .u8 a) (by rfl);obtain⟨_,aO,cG⟩:=BA.many (j:=1) (v:=.int .u8 b) (by rfl);cases aO;obtain⟨_,aO,fM⟩:=BA.many (j:=2) (v:=.int .u8 c2) (by rfl);cases aO;obtain⟨_,aO,iU⟩:=BA.many (j:=3) (v:=.int .u8 d) (by rfl);cases aO;obtain⟨_,aO,qd⟩:=BA.many (j:=4) (v:=.int .u8 e) (by rfl);cases aO;have aQ:qw a:=ψ _ (by simp);have wV:qw b:=ψ _ (by simp);have rI:qw c2:=ψ _ (by simp);rw[cond_neg (by rfl)];refine bL (by decide) ?_
 try dsimp only[bk]
 refine⟨a,n3,bL (by decide) ?_⟩;refine⟨b,cG,bL (by decide) ?_⟩;refine⟨b,cG,bL (by decide) ?_⟩;refine⟨c2,fM,bL (by decide) ?_⟩;refine⟨d,iU,bL (by decide) ?_⟩;refine⟨e,qd,?_⟩;rintro θ aa rfl rfl;have acz:=ρ.ex (η.drew γ);have bo:=μ.new (w:=γ.drew) l4 fk;have ad:=η.alloc γ.drew (.cells l4.toArray fk);unfold l4 at bo ad;have ca:γ.drew.heap.size≠δ:=by have:=acz.ge rfl;dsimp only at this;omega
 have G8:w.heap.size<=γ.drew.heap.size:=(ζ.trans (η.drew γ)).size;generalize γ.drew.heap.size=θ at bo ca G8⊢;generalize γ.drew.alloc (.cells #[.int .i64 0,.int .i64 0,.int .i64 0,.int .i64 0,.complex .f64 0 0] fk)=aa at bo ad⊢;have nN:=BA.ex ad;have GB:aa.cell? q=some (.int .u8 a):=by
  have:=nN 0 _ rfl
  rwa[show q.add 0=q from Addr.add_zero' q]at this
 refine⟨rfl,nN 4 _ rfl,nN 3 _ rfl,nN 2 _ rfl,nN 1 _ rfl,nN 1 _ rfl,GB,?_⟩;rw[asE wV,ajr wV,bY (x:=a) (by have:=aQ.1;omega) (by have:=aQ.2;omega),bY (x:=c2) (by have:=rI.1;omega) (by have:=rI.2;omega)];refine bo.put (by rfl) cells_one λaz cz cx=>?_;have ρ:=(acz.ex ad).aH cz (λx I=>by cases I;exactλe=>ca e.symm);have aA:η w az:=(ζ.trans ((η.drew γ).trans ad)).then cz λi o=>o▸G8;refine⟨(uh [a,b,c2,d,e]).cells.toArray,rfl,cx.cells,?_⟩;refine κ.use (A1 aoP _) ?_;rintro _ aE ⟨rfl,ak⟩
 try dsimp only[bH]
 have aho:=aA.trans ak;refine bz (λh=>?_) λh=>?_
 ·have π:¬hS (uh [a,b,c2,d,e])=0:=by simpa using h
  refine(ρ.ex ak).put (by rfl) cells_one λbm hA er=>?_;refine⟨l4.toArray,rfl,er.cells,χ.mk ⟨?_,aho.then hA λi o=>by omega⟩⟩;unfold ui;rw[aM π,aM π]
 ·have π:hS (uh [a,b,c2,d,e])=0:=by simpa using h
  refine⟨(uh [a,b,c2,d,e]).cells.toArray,rfl,(cx.ex ak).cells,bL (by rfl) ?_⟩;refine(ρ.ex ak).put (by rfl) cells_one λbm hA er=>?_;refine⟨(uh [a,b,c2,d,e]).cells.toArray,rfl,er.cells,χ.mk ⟨?_,aho.then hA λi o=>by omega⟩⟩;unfold ui;rw[aS π,aS π]
def jC(l:List fx):aU:=(l.map fx.cells).flatten
theorem M5(l:List fx):(jC l).length=l.length*5:=by
 unfold jC
 induction l with
 |nil=>rfl
 |cons d r ch=>simp only[xw,B8,fe,ch,k5];show 5+_=_;omega
theorem akq(l:List fx):∀z∈jC l,z.oneCell'=true:=by intro z aL;obtain⟨r,υ,aL⟩:=List.mem_flatten.1 aL;obtain⟨d,_,rfl⟩:=gO.1 υ;exact RQ d z aL
theorem Jn(a b:List fx):jC (a++b)=jC a++jC b:=by simp[jC]
theorem Zi{w:World}{p:J}{l:List fx}(h:a7 w p (jC l)){i:Nat}{d:fx}(o:l[i]?=some d):∃a,p=some a/\aw w (a.add (i*5)) d.cells:=
 a7.row h (λr υ=>by obtain⟨d,_,rfl⟩:=gO.1 υ;rfl) (by omega) (by rw[List.getElem?_map,o];rfl)
theorem ak7(l:List fx):(l.flatMap pS).length=l.length*5:=by
 induction l with
 |nil=>rfl
 |cons d r ch=>rw[yS,fe,ch,k5];show 5+_=_;omega
theorem YE(x:Int):qw (x%256):=⟨O6 _ (by omega),OW _ (by omega)⟩
def qf(seq num:Int)(l:List fx):an:=bt.be 4 seq++[num%256,(l.length:Int)%256]++l.flatMap pS
theorem Pt(seq num:Int)(l:List fx):(qf seq num l).length=6+l.length*5:=by unfold qf;rw[fe,fe,bt.sE,ak7];rfl
theorem ak6{l:List fx}(hw:∀d∈l,d.wf)(bg:∀d∈l,hS d=0):Bytes (l.flatMap pS):=by intro z aL;obtain⟨d,af,aL⟩:=oU.1 aL;exact ak5 (ZB (hw d af) (bg d af)) z aL
theorem ang(seq num:Int)(n:Nat):Bytes (bt.be 4 seq++[num%256,(n:Int)%256]):=by
 refine Bytes.append (bt.Bj _ _) ?_;intro z aL;simp only[fA,n1,oS]at aL;rcases aL with rfl|rfl
 ·exact YE _
 ·exact YE _
theorem Ps{seq num:Int}{l:List fx}(hw:∀d∈l,d.wf)(bg:∀d∈l,hS d=0):Bytes (qf seq num l):=(ang _ _ _).append (ak6 hw bg)
theorem ad3(seq num:Int)(p:J)(n c:Nat)(l:List fx)(w:World)(ω:0<=seq/\seq<4294967296)(π:a7 w p (jC l))(ax:l.length=n)(hy:n<=6)(hw:∀d∈l,d.wf)(bg:∀d∈l,hS d=0):
  pw.C seq num p n c w (χ λv w'=>∃bT aT,v=.tuple #[.slice bT 64 aT,.int .i64 0]/\μ w' w.heap.size dk 1 bT 64 aT (bj (kz (qf seq num l)))/\η w w'):=by
 apply pw.ok;unfold pw.main;rintro δ γ rfl rfl;have ρ:=μ.new (w:=w) [.int .i64 seq] cj;have ζ:=η.alloc w (.cells [Value.int .i64 seq].toArray cj);generalize w.alloc (.cells #[.int .i64 seq] cj)=γ at ρ ζ⊢;refine κ.use (bt.Xx (some ⟨w.heap.size,0,none⟩) 1 1 [seq] 4 γ ρ.cells rfl (by omega)) ?_;rintro _ τ ⟨aX,bu,c2,rfl,aa4,ai,σ⟩
 try dsimp only[bX,cC,cD,bk,bH,dY]
 have aqx:[seq].all (bt.nX 4)=true:=by simp only[List.all_cons,List.all_nil,Bool.and_true,bt.nX,kx,po];exact⟨ω.1,ω.2⟩
 have mj:bt.oW 4 [seq]=bt.be 4 seq:=by
  have:=(bt.Ii (k:=4) (by omega) (by omega) [seq]).2
  rw[aS aqx]at this;have e:((4:Nat):Int)=4:=rfl;rw[e]at this;rw[this];simp
 rw[mj]at ai;have anD:bu=4:=by have:=yM (xs:=bt.be 4 seq) ai;rw[bt.sE]at this;exact this.symm
 subst anD;rintro aF aa rfl rfl;rw[wi,wi];have bo:=μ.alloc (w:=τ) (bj [num%256,(n:Int)%256]) dk 1 2 rfl;have ad:=η.alloc τ (.cells (bj [num%256,(n:Int)%256]).toArray dk);generalize aoK:τ.alloc (.cells #[.int .u8 (num%256),.int .u8 ((n:Int)%256)] dk)=aa;have aoL:τ.alloc (.cells (bj [num%256,(n:Int)%256]).toArray dk)=aa:=aoK;rw[aoL]at bo ad;have gb:η w aa:=ζ.trans (σ.trans ad);refine lp (B:=w.heap.size) ((ai.lower ζ.size).ex ad) gb.size (bj [num%256,(n:Int)%256]) bo.cells rfl (Ct _) rfl (by omega) (by omega) ?_;intro fH iC aE cu dN;have ak:η w aE:=gb.then dN λi⟨x,e,o⟩=>by
  have:=((ai.lower ζ.size).ge e).1
  omega
 have h3:bj (bt.be 4 seq)++bj [num%256,(n:Int)%256]=bj (bt.be 4 seq++[num%256,(n:Int)%256]):=IE _ _;have cu:μ aE w.heap.size dk 1 fH (4+2) iC (bj (bt.be 4 seq++[num%256,(n:Int)%256])):=by rw[<-h3];exact cu
 unfold pw.bd;refine⟨λjk hX iV y3 y2 Cn t29 t30 w'=>p=y3/\n=y2/\c=Cn/\t29=(n:Int)/\0<=t30/\t30<=n/\hX=6+t30.toNat*5/\μ w' w.heap.size dk 1 jk hX iV (bj (bt.be 4 seq++[num%256,(n:Int)%256]++(l.take t30.toNat).flatMap pS))/\η w w',
  λjk hX iV y3 y2 Cn t29 t30 w'=>(n-t30).toNat,⟨rfl,rfl,rfl,rfl,by omega,by omega,rfl,by simpa using cu,ak⟩,?_⟩
 rintro jk hX iV _ _ _ _ t30 w' ⟨rfl,rfl,rfl,rfl,aD,h1,hlen,aB,I⟩;unfold pw.δ;refine bz (λh=>?_) λh=>?_
 ·have h:=b7 h;obtain⟨j,rfl⟩:=eH aD;have φ:j<l.length:=by omega
  obtain⟨d,af,hm,wY⟩:=a6.ow φ;refine bL (bB aD) (bL (bB h) ?_);obtain⟨a,rfl,mj⟩:=Zi (π.ex I) af
  try dsimp only[bk]
  refine⟨d.cells.toArray,rfl,mj,?_⟩;rintro aF ba rfl rfl;have bS:=μ.new (w:=w') l4 fk;have aI:=η.alloc w' (.cells l4.toArray fk);unfold l4 at bS aI;generalize w'.alloc (.cells #[.int .i64 0,.int .i64 0,.int .i64 0,.int .i64 0,.complex .f64 0 0] fk)=ba at bS aI⊢;refine bL (by rfl) ?_;refine bS.put (by rfl) cells_one λbm hA er=>?_;have aV:η w' bm:=aI.then hA λi o=>o▸ew _;refine⟨d.cells.toArray,rfl,er.cells,?_⟩;refine κ.use (ahZ (hw d hm) _) ?_;rintro _ b5 ⟨iM,l9,rfl,cg,e6⟩
  try dsimp only[bX,cC,cD,bk,bH,dY]
  have G5:=bg d hm;have ij:zK d=pS d:=by unfold zK;rw[aS G5]
  rw[ij]at e6⊢;rw[cond_neg (by simp[G5])];have WO:=aV.trans cg;refine lp (B:=w.heap.size) (aB.ex WO) (I.trans WO).size (bj (pS d)) e6.cells (by simp[bj]) (Ct _) rfl (by have:(pS d).length=5:=rfl;omega) (by have:(pS d).length=5:=rfl;omega) ?_;intro eY hR cf jh iL;have cm:η w cf:=(I.trans WO).then iL λi⟨x,e,o⟩=>by
   have:=(aB.ge e).1
   omega
  have qK:l.take (j+1)=l.take j++[d]:=by rw[O8,af];rfl
  have iI:IntKind.i64.wrap ((j:Int)+1)=((j+1:Nat):Int):=by rw[bY (by omega) (by omega)];rfl
  rw[iI];have IA:((j+1:Nat):Int).toNat=j+1:=rfl;refine⟨⟨rfl,rfl,rfl,rfl,by omega,by omega,?_,?_,cm⟩,by((try dsimp only);omega)⟩
  ·show hX+5=_;omega
  ·show μ cf _ _ _ eY (hX+5) hR (bj (_++(l.take (j+1)).flatMap pS));rw[qK,vZ,<-lT,<-IE]
   have:[d].flatMap pS=pS d:=by simp
   rw[this];exact jh
 ·have h:=dd h;have e:t30=n:=by omega
  subst e;have R0:l.take ((n:Nat):Int).toNat=l:=by rw[cy];exact hc (by omega)
  rw[R0]at aB;have M9:bt.be 4 seq++[num%256,(n:Int)%256]++l.flatMap pS=qf seq num l:=by unfold qf;rw[ax]
  rw[M9]at aB;have hle:=Pt seq num l;unfold pw.a1;refine κ.use (Qz jk hX iV _ w' aB.cells (by omega) (Ps hw bg)) ?_;rintro _ τ ⟨q,m,e,rfl,hm,s7,awa⟩
  try dsimp only[bX,cC,cD,bk,bH,dY]
  have fV:uc (qf seq num l)=kz (qf seq num l):=Rs (by omega);have anb:Jj (qf seq num l)=0:=by unfold Jj;rw[aM (by omega)]
  rw[fV]at s7
  have:m=64:=by have:=yM s7;rw[xE (by omega)]at this;exact this.symm
  subst this;rw[anb];exact χ.mk ⟨q,e,rfl,s7.lower I.size,I.trans awa⟩
def dl(xs:an)(i:Nat):fx:=uh ((xs.drop (6+5*i)).take 5)
def sO(xs:an)(m:Nat):List fx:=(List.range m).map (dl xs)
def fs(xs:an):Int:=xs.getD 5 0
def reads(xs:an):Option (List fx):=if nq xs=0/\1<=fs xs/\fs xs<=6/\∀d∈sO xs (fs xs).toNat,hS d=0 then some (sO xs (fs xs).toNat)else none
def qe(seq num:Int)(xs:an):Option (List fx):=
 match reads xs with
 |some l=>if kz (qf seq num l)=xs then some l else none
 |none=>none
theorem Zd{xs:an}(ψ:Bytes xs)(m:Nat):∀d∈sO xs m,d.wf:=λd af=>by obtain⟨i,_,rfl⟩:=gO.1 af;exact Y7 ((ψ.drop _).take _)
theorem RS(xs:an)(m:Nat):(sO xs m).length=m:=by simp[sO]
theorem Zc(xs:an)(m:Nat):sO xs (m+1)=sO xs m++[dl xs m]:=by simp[sO,uP]
theorem OG{xs:an}(h:nq xs=0):xs.length=64/\xq xs=xs.take 60:=by
 unfold nq at h;unfold xq;split at h
 ·rename_i aj;rw[aS aj];split at h
  ·rename_i π;exact⟨aj,by rw[aS π]⟩
  ·cases h
 ·cases h
theorem akz{xs:an}{i:Nat}(o:i<6):((xs.take 60).drop (6+5*i)).take 5=(xs.drop (6+5*i)).take 5:=by rw[E6,AF,qZ (by omega)]
theorem aqW{w:World}{p:J}{c:Nat}{xs:an}(h:a7 w p (bj xs))(π:xs.length<=c)(i:Nat):a7 w (du p c i 1) (bj ((xs.drop i).take 5)):=by
 have:=h.slice c i 5 (by rw[sn];exact π)
 unfold bj at this⊢;rw[vY,xx];exact this
theorem Ib(p:J)(c:Nat)(xs:an)(seq num:Int)(w:World)(π:a7 w p (bj xs))(ax:xs.length=64)(jS:64<=c)(ψ:Bytes xs)(ω:0<=seq/\seq<4294967296):
  pv.C p 64 c seq num w (χ λv w'=>η w w'/\∃q m d,v=.tuple #[.slice q m d,.bool (qe seq num xs).isSome]/\∀l,qe seq num xs=some l->l.length=m/\m<=6/\μ w' w.heap.size fk 5 q m d (jC l)):=by
 apply pv.ok;unfold pv.main;refine κ.use (I0 p 64 c xs w π ax jS ψ) ?_;rintro _ γ ⟨ab,ay,c1,rfl,qN,ρ,ζ⟩
 try dsimp only[bX,cC,cD,bk,bH,dY]
 refine bz (λh=>?_) λh=>?_
 ·have h:¬nq xs=0:=by simpa using h
  have e:reads xs=none:=by unfold reads;rw[aM λc=>h c.1]
  exact χ.mk ⟨ζ,none,0,0,by unfold qe;rw[e];rfl,λl aj=>by unfold qe at aj;rw[e]at aj;cases aj⟩
 have h:nq xs=0:=by simpa using h
 obtain⟨_,dW⟩:=OG h;rw[dW]at ρ;have J4:ay=60:=by have:=yM ρ;rw[gQ,ax]at this;exact this.symm
 subst J4;have rI:60<=c1:=ρ.2.1;have db:(bj (xs.take 60))[5]?=some (.int .u8 (fs xs)):=by unfold bj fs;rw[List.getElem?_map,List.getElem?_take,aS (by omega),List.getD_eq_getElem?_getD,List.getElem?_eq_getElem (by omega)];rfl
 obtain⟨ar,rfl,Ci⟩:=ρ.cells.many db;refine bL (by decide) ?_
 try dsimp only[bk]
 refine⟨fs xs,Ci,?_⟩;refine bz (λh1=>?_) λh1=>?_
 ·have h1:=b7 h1;have e:reads xs=none:=by unfold reads;rw[aM λc=>by omega]
  exact χ.mk ⟨ζ,none,0,0,by unfold qe;rw[e];rfl,λl aj=>by unfold qe at aj;rw[e]at aj;cases aj⟩
 have h1:=dd h1;refine bL (by decide) ?_;refine⟨fs xs,Ci,?_⟩;refine bz (λι=>?_) λι=>?_
 ·have ι:=b7 ι;have e:reads xs=none:=by unfold reads;rw[aM λc=>by omega]
  exact χ.mk ⟨ζ,none,0,0,by unfold qe;rw[e];rfl,λl aj=>by unfold qe at aj;rw[e]at aj;cases aj⟩
 have ι:=dd ι;refine bL (by decide) ?_;refine⟨fs xs,Ci,?_⟩;rw[bY (x:=fs xs) (by omega) (by omega)];obtain⟨m,hm⟩:=eH (show 0<=fs xs by omega);have anQ:(fs xs).toNat=m:=by omega
 have awK:=ζ.size;unfold pv.bd;refine⟨λcb b8 ck t1 t2 jk hX iV e7 eV fi t37 t38 w'=>p=cb/\b8=64/\c=ck/\seq=t1/\num=t2/\jk=some ar/\hX=60/\c1=iV/\t37=fs xs/\0<=t38/\t38<=m/\eV=t38.toNat/\(∀d∈sO xs t38.toNat,hS d=0)/\μ w' w.heap.size fk 5 e7 eV fi (jC (sO xs t38.toNat))/\μ w' w.heap.size dk 1 (some ar) 60 c1 (bj (xs.take 60))/\η w w',
  λcb b8 ck t1 t2 jk hX iV e7 eV fi t37 t38 w'=>(m-t38).toNat,⟨rfl,rfl,rfl,rfl,rfl,rfl,rfl,rfl,rfl,by omega,by omega,rfl,λd af=>(by cases af),μ.nil _ _ _ _,ρ,ζ⟩,?_⟩
 rintro _ _ _ _ _ _ _ _ e7 eV fi _ t38 w' ⟨rfl,rfl,rfl,rfl,rfl,rfl,rfl,rfl,rfl,aD,hle,hlen,dt,aB,ρ,I⟩;unfold pv.δ;obtain⟨j,rfl⟩:=eH aD;rw[cy]at hlen dt aB;obtain rfl:=hlen.symm;refine bz (λh=>?_) λaG=>?_
 ·have h:=b7 h;have φ:j<6:=by omega
  have aO:IntKind.i64.wrap (6+IntKind.i64.wrap (5*(j:Int)))=((6+5*j:Nat):Int):=by rw[bY (x:=5*(j:Int)) (by omega) (by omega),bY (by omega) (by omega)];omega
  have bE:IntKind.i64.wrap (((6+5*j:Nat):Int)+5)=((11+5*j:Nat):Int):=by rw[bY (by omega) (by omega)];omega
  rw[aO,bE,cy,cy];refine bL (bB (by omega)) (bL (bB (by omega)) (bL (bB (by omega)) (bL (bB (by omega)) ?_)));have aba:=aqW (c:=c1) ρ.cells (by rw[gQ,ax];omega) (6+5*j);rw[akz φ]at aba;have h3:11+5*j-(6+5*j)=5:=by omega
  rw[h3];have amQ:Bytes ((xs.drop (6+5*j)).take 5):=(ψ.drop _).take _;have anE:((xs.drop (6+5*j)).take 5).length=5:=by rw[gQ,ky,ax];omega
  refine κ.use (ahS aba anE amQ) ?_;rintro _ aa ⟨rfl,ad⟩
  try dsimp only[bX,cC,cD,bk,bH,hx,ie]
  rintro c8 aE rfl rfl;have cu:=μ.new (w:=aa) l4 fk;have ak:=η.alloc aa (.cells l4.toArray fk);unfold l4 at cu ak;generalize aa.alloc (.cells #[.int .i64 0,.int .i64 0,.int .i64 0,.int .i64 0,.complex .f64 0 0] fk)=aE at cu ak⊢;have nM:(ui ((xs.drop (6+5*j)).take 5)).length=5:=by unfold ui;split<;>rfl
  have amk:∀y∈ui ((xs.drop (6+5*j)).take 5),y.oneCell'=true:=by unfold ui;split;exact RQ _;exact awf
  refine bL (bB (by rw[fh];exact nM)) ?_;refine cu.put (cs:=ui ((xs.drop (6+5*j)).take 5)) nM amk λba ec bS=>?_;have WL:η aa ba:=ak.then ec λi o=>o▸ew _;have aI:η w' ba:=ad.trans WL;by_cases af:hS (dl xs j)=0
  ·have vz:hS (uh ((xs.drop (6+5*j)).take 5))=0:=af;rw[aS vz,cond_neg (by rfl)];refine⟨(ui ((xs.drop (6+5*j)).take 5)).toArray,by rw[fh];exact nM,bS.cells,?_⟩;have Te:Instr.fill (λi=>some (i*5,5)) (madeCells #[(Value.int .i64 0),(Value.int .i64 0),(Value.int .i64 0),(Value.int .i64 0),(Value.complex .f64 0 0)] (1*5)) [(0,(Value.agg (ui ((xs.drop (6+5*j)).take 5)).toArray))]=some (ui ((xs.drop (6+5*j)).take 5)).toArray:=
    Sh 5 _ _ (by rw[size_madeCells]) (by rw[fh];exact nM)
   rw[Te]
   try dsimp only[bk]
   rintro iv bm rfl rfl;have aml:ui ((xs.drop (6+5*j)).take 5)=(dl xs j).cells:=by unfold ui;rw[aS vz];rfl
   rw[aml];have aV:=η.alloc ba (.cells (dl xs j).cells.toArray fk);have nb:a7 (ba.alloc (.cells (dl xs j).cells.toArray fk)) (some ⟨ba.heap.size,0,none⟩) (dl xs j).cells:=a7.alloc _ _;generalize ba.alloc (.cells (dl xs j).cells.toArray fk)=bm at aV nb⊢;have ri:=aI.trans aV;refine lp (B:=w.heap.size) (aB.ex ri) (I.trans ri).size (dl xs j).cells nb rfl (RQ _) rfl (by omega) (by omega) ?_;intro eY hR cf jh iL;have cm:η w cf:=(I.trans ri).then iL λi⟨x,e,o⟩=>by
    have:=(aB.ge e).1
    omega
   have rZ:μ cf w.heap.size dk 1 (some ar) 60 c1 (bj (xs.take 60)):=
    (ρ.ex ri).cB iL fk (λi⟨x,e,o⟩=>o▸((aB.ex ri).typed e).1) (by decide)
   have iI:IntKind.i64.wrap ((j:Int)+1)=((j+1:Nat):Int):=by rw[bY (by omega) (by omega)];rfl
   rw[iI];have IA:((j+1:Nat):Int).toNat=j+1:=rfl;refine⟨⟨rfl,rfl,rfl,rfl,rfl,rfl,rfl,rfl,rfl,by omega,by omega,rfl,?_,?_,rZ,cm⟩,by((try dsimp only);omega)⟩
   ·intro d zQ;rw[IA,Zc]at zQ;rcases iG.1 zQ with zQ|zQ
    ·exact dt d zQ
    ·rw[lB.1 zQ];exact af
   ·rw[IA,Zc,Jn]
    have:jC [dl xs j]=(dl xs j).cells:=by simp[jC]
    rw[this];exact jh
  ·have vz:¬hS (uh ((xs.drop (6+5*j)).take 5))=0:=af;rw[aM vz,cond_pos (by rfl)];have e:reads xs=none:=by
    unfold reads;rw[aM λc=>af (c.2.2.2 _ (gO.2 ⟨j,ns.2 (by omega),rfl⟩))]
   exact χ.mk ⟨I.trans aI,none,0,0,by unfold qe;rw[e];rfl,λl aj=>by unfold qe at aj;rw[e]at aj;cases aj⟩
 ·have aG:=dd aG;obtain rfl:m=j:=by omega
  have e:reads xs=some (sO xs m):=by unfold reads;rw[anQ,aS ⟨‹nq xs=0›,by omega,by omega,dt⟩]
  unfold pv.a1;refine κ.use (ad3 seq num e7 m fi (sO xs m) w' ω aB.cells (RS _ _) (by omega) (Zd ψ _) dt) ?_;rintro _ τ ⟨q,d,rfl,ai,σ⟩
  try dsimp only[bX,cC,cD,bk,bH,dY]
  rw[cond_pos (by rfl)];have BL:(qf seq num (sO xs m)).length<=60:=by rw[Pt,RS];omega
  refine κ.use (Xc q 64 d p 64 c _ xs τ ai.cells (xE BL) (π.ex (I.trans σ)) ax (Ik (Ps (Zd ψ _) dt)) ψ) ?_;rintro _ aa ⟨rfl,ad⟩
  try dsimp only[dE]
  refine χ.mk ⟨I.trans (σ.trans ad),e7,m,fi,?_,?_⟩
  ·unfold qe;rw[e];dsimp only;by_cases aC:kz (qf seq num (sO xs m))=xs
   ·rw[aS aC,bB aC];rfl
   ·rw[aM aC,iy aC];rfl
  ·intro l aj;unfold qe at aj;rw[e]at aj;dsimp only at aj;split at aj
   ·cases aj;exact⟨RS _ _,by omega,aB.ex (σ.trans ad)⟩
   ·cases aj
def pg(seq:Int)(now:List an):Nat->Nat->List fx×Nat
 |0,n=>([],n)
 |f+1,n=>match qe seq n (now.getD (24+n) [])with
  |none=>([],n)
  |some l=>(l++(pg seq now f (n+1)).1,(pg seq now f (n+1)).2)
theorem QO{w:World}{B pd:Nat}{d:a6.c3}{D:bf}(h:a6.gV w B pd d D)(bJ:a6.Good d)(aB:d.off=false)(aj:40<=d.now.length)(seq:Int)(ω:1<=seq/\seq<=1073741824):
  tx.C (some ⟨pd,0,none⟩) seq w (χ λv w'=>∃p c,v=.tuple #[.slice p (pg seq d.now 16 0).1.length c,.int .i64 ((pg seq d.now 16 0).2:Int),.int .i64 0]/\μ w' w.heap.size fk 5 p (pg seq d.now 16 0).1.length c (jC (pg seq d.now 16 0).1)/\η w w'):=by
 apply tx.ok;unfold tx.main
 try dsimp only[mI,iY]
 rw[iD (show¬seq<1 by omega),iD (show¬seq>1073741824 by omega)];unfold tx.bd
 refine⟨λt0 t1 nv mV oY t23 w'=>t0=some ⟨pd,0,none⟩/\seq=t1/\0<=t23/\t23<=16/\η w w'/\∃acc:List fx,acc.length=mV/\mV<=6*t23.toNat/\μ w' w.heap.size fk 5 nv mV oY (jC acc)/\
   pg seq d.now 16 0=(acc++(pg seq d.now (16-t23.toNat) t23.toNat).1,(pg seq d.now (16-t23.toNat) t23.toNat).2),
  λt0 t1 nv mV oY t23 w'=>(16-t23).toNat,⟨rfl,rfl,by omega,by omega,η.refl w,[],rfl,by omega,μ.nil _ _ _ _,rfl⟩,?_⟩
 rintro _ _ nv mV oY t23 w' ⟨rfl,rfl,aD,h1,I,acc,h5,anS,own,heq⟩;unfold tx.δ;obtain⟨k,rfl⟩:=eH aD;rw[cy]at heq anS;refine bz (λhk=>?_) λhk=>?_
 ·have hk:=b7 hk;have vt:IntKind.i64.wrap (24+(k:Int))=((24+k:Nat):Int):=by rw[bY (by omega) (by omega)];omega
  rw[vt];refine κ.use (a6.xW (h.ex I) bJ ((24+k:Nat):Int)) ?_;rintro _ γ ⟨ζ,Ec⟩;have pY:a6.sT d ((24+k:Nat):Int)=0:=by unfold a6.sT;rw[aB,aM (by simp),aM (by omega)]
  rcases Ec with⟨ca,_⟩|⟨_,ab,c1,s,lO,rfl,ρ⟩
  ·exact(ca pY).elim
  rw[cy]at lO
  try dsimp only[bX,cC,cD,bk,bH,dY]
  rw[cond_neg (by rfl)];have ep:a6.kE s:=bJ.now s (eZ lO);have Ti:d.now.getD (24+k) []=s:=by rw[List.getD_eq_getElem?_getD,lO];rfl
  refine κ.use (Ib ab c1 s seq (k:Int) γ ρ.cells ep.1 ρ.2.1 ep.2 ⟨by omega,by omega⟩) ?_;rintro _ aa ⟨ad,q,m,e,rfl,Ec⟩
  try dsimp only[bX,cC,cD,bk,dE,dY]
  have bg:16-k=(16-(k+1))+1:=by omega
  have Hk:pg seq d.now (16-k) k=match qe seq k s with
   |none=>([],k)
   |some l=>(l++(pg seq d.now (16-(k+1)) (k+1)).1,(pg seq d.now (16-(k+1)) (k+1)).2):=by rw[bg,pg,Ti]
  rw[Hk]at heq;cases υ:qe seq k s with
  |none=>
   rw[υ]at heq;rw[cond_pos (by rfl)];dsimp only at heq;rw[pn]at heq;refine χ.mk ⟨nv,oY,?_,?_,I.trans (ζ.trans ad)⟩
   ·rw[heq];dsimp only;rw[h5]
   ·rw[heq];dsimp only;rw[h5];exact own.ex (ζ.trans ad)
  |some l=>
   rw[υ]at heq;dsimp only at heq;obtain⟨aaY,axg,ol⟩:=Ec l υ;rw[cond_neg (by rfl)];have gb:=ζ.trans ad;refine lp (B:=w.heap.size) (own.ex gb) (I.trans gb).size (jC l) ol.cells (by rw[M5,aaY]) (akq l) rfl (by omega) (by omega) ?_;intro eY hR cf jh iL;have cm:η w cf:=(I.trans gb).then iL λi⟨x,e,o⟩=>by
    have:=(own.ge e).1
    omega
   have iI:IntKind.i64.wrap ((k:Int)+1)=((k+1:Nat):Int):=by rw[bY (by omega) (by omega)];rfl
   rw[iI];have IA:((k+1:Nat):Int).toNat=k+1:=rfl;refine⟨⟨rfl,rfl,by omega,by omega,cm,acc++l,by rw[fe,h5,aaY],by rw[IA];omega,by rw[Jn];exact jh,?_⟩,by((try dsimp only);omega)⟩;rw[IA,heq,lT]
 ·have hk:=dd hk;obtain rfl:k=16:=by omega
  have heq:pg seq d.now 16 0=(acc,16):=by rw[heq];simp[pg]
  refine χ.mk ⟨nv,oY,?_,?_,I⟩
  ·rw[heq];dsimp only;rw[h5];rfl
  ·rw[heq];dsimp only;rw[h5];exact own
theorem Qy(p:J)(n c:Nat)(w:World):CS.C p n c 6 w (χ λv w'=>∃dP dQ,v=.func (.func 184) #[] #[.pointer (some ⟨dP,0,none⟩),.pointer (some ⟨dQ,0,none⟩)]/\η w w'/\μ w' w.heap.size IC 1 (some ⟨dP,0,none⟩) 1 1 [.slice p n c]/\μ w' w.heap.size cj 1 (some ⟨dQ,0,none⟩) 1 1 [.int .i64 6]):=by apply CS.ok;unfold CS.main;rintro δ γ rfl rfl θ τ rfl rfl;have ρ:=μ.new (w:=w) [.slice p n c] IC;have ζ:=η.alloc w (.cells [Value.slice p n c].toArray IC);generalize w.alloc (.cells #[.slice p n c] IC)=γ at ρ ζ⊢;have ai:=μ.new (w:=γ) [.int .i64 6] cj;have σ:=η.alloc γ (.cells [Value.int .i64 6].toArray cj);generalize γ.alloc (.cells #[.int .i64 6] cj)=τ at ai σ⊢;refine⟨6,ai.at (by rfl),?_⟩;rw[iD (by omega)];exact χ.mk ⟨_,_,rfl,ζ.trans σ,ρ.ex σ,ai.lower ζ.size⟩
theorem gV.grown{W b6:World}{B pd C:Nat}{d:a6.c3}{D:bf}(h:a6.gV W B pd d D)(k:Kp W b6 (vf W C)):a6.gV b6 B pd d D:=
 h.aH k λi o ax=>by rcases(h.typed o).1 with t|t|t<;>exact ax.typed t
end Go.Proofs.YtcpdfhkhaekekaaGreat.G.eh
namespace Go.Proofs.YtcpdfhkhaekekaaGreat.G.cL
open Go.bO Go.RowKit
theorem Us{s k q:Int}{R:bR}(aC:uI q)(j9:lG s k R)(aB:∀e∈R,lz e)(dr:R.length=8):∀bl∈ix s k q (eQ k R),Bytes bl:=by
 have dS:=uE.1 j9.1.1;have NV:=HL dr j9.1.2.1 k;have Hh:=adi (k:=k) aB;generalize eQ k R=t at NV Hh⊢;have aax:fs t.length<=11:=by unfold fs;omega
 have dt:(yq s k q t).Ok:=⟨⟨by have:=aC.1;show 0<=q;omega,by have:=aC.2;show q<_;omega⟩,⟨by show 0<=s;omega,by show s<_;omega⟩,⟨by show 0<=k;omega,by show k<_;omega⟩,by show fs t.length<256;omega,by show t.length<_;omega⟩;intro bl ly;unfold ix at ly;rcases fA.1 ly with rfl|ly
 ·exact Ik (aaC dt t)
 ·unfold rX at ly;obtain⟨i,o,rfl⟩:=O9.1 ly;rw[Cc]at o;have fV:=MN t (List.range (fs t.length))[i];have aw3:dU t.length (List.range (fs t.length))[i]<=52:=by unfold dU;omega
  refine Ik (Bytes.append (Bytes.append (bt.Bj 4 q) λx I=>?_) ((Hh.drop _).take _));simp only[fA,n1,oS]at I;omega
end Go.Proofs.YtcpdfhkhaekekaaGreat.G.cL
namespace Go.Proofs.YtcpdfhkhaekekaaGreat.G.cL
open Go.bO Go.RowKit
open Go.bO Go.RowKit
theorem KQ{x:an}(h:x.length<=60)(n m:Nat)(axm:n+m<=x.length):(((kz x).take 60).drop n).take m=(x.drop n).take m:=by rw[Pr h];unfold pad;rw[Cd (by omega),oT (by rw[ky];omega)]
theorem Je(q:Int):∃a b c d,bt.be 4 q=[a,b,c,d]:=by
 have h:=bt.sE 4 q
 match ψ:bt.be 4 q with
 |[a,b,c,d]=>exact⟨a,b,c,d,rfl⟩
 |[]=>rw[ψ]at h;simp at h
 |[_]=>rw[ψ]at h;simp at h
 |[_,_]=>rw[ψ]at h;simp at h
 |[_,_,_]=>rw[ψ]at h;simp at h
 |_::_::_::_::_::_=>rw[ψ]at h;simp at h
theorem am2(H:gz)(t:an):((nh H t).take 60).take 4=la:=by
 have h1:=G7 H t
 have:=KQ (x:=rJ H t) (by omega) 0 4 (by omega)
 rw[Pa,Pa]at this;unfold nh;rw[this];rfl
theorem am0(H:gz)(t:an):c9 (nh H t) 10 1=(H.m:Int):=by
 have h1:=G7 H t;have wQ:((nh H t).take 60).length=60:=by unfold nh;rw[gQ,xE (by omega)];rfl
 unfold c9;rw[(bt.Sw (by omega) (by omega) (n:=((nh H t).take 60).length) rfl (by omega) (by omega)).1]
 have:=KQ (x:=rJ H t) (by omega) 10 1 (by omega)
 unfold nh;have akW:(10:Int).toNat=10:=rfl;have aO:(1:Int).toNat=1:=rfl;rw[akW,aO,this];obtain⟨a,b,c,d,aC⟩:=Je H.q;unfold rJ BB yp lK;rw[aC];simp[la,bt.num]
theorem abT{q:Int}{i:Nat}{part:an}(h:part.length<=52):said (Ai q i part)=part.length/\partOf (Ai q i part)=part:=by
 have aj:=Og q i part;obtain⟨a,b,c,d,aC⟩:=Je q;have abj:said (Ai q i part)=part.length:=by
  have:=KQ (x:=uD q i part) (by omega) 5 1 (by omega)
  have g:=gP (λl=>l[0]?) this;simp only[List.getElem?_take,List.getElem?_drop]at g;unfold said Ai;have e:(kz (uD q i part)).take 60=pad (uD q i part):=Pr (by omega);rw[e];unfold pad;rw[List.getElem?_append_left (by omega)];unfold uD;rw[aC];simp
 refine⟨abj,?_⟩;unfold partOf;rw[abj,cy];unfold Ai;rw[KQ (by omega) 6 part.length (by omega)];unfold uD;rw[aC];simp
theorem chunks{t:an}:∀m,(List.range m).flatMap (chunk t)=t.take (52*m)
 |0=>by simp
 |m+1=>by
  rw[uP,vZ,chunks m];have e:52*(m+1)=52*m+52:=by omega
  rw[e,List.take_add];congr 1;simp only[yS,List.flatMap_nil,pn];unfold chunk dU;by_cases h:52<=t.length-52*m
  ·rw[qZ h]
  ·rw[Nat.min_eq_right (by omega),hc (by rw[ky];exact ew _),hc (by rw[ky];omega)]
theorem Rp(t:an)(j:Nat):(chunk t j).length<=52:=by rw[MN];unfold dU;omega
theorem ab2(q:Int)(t:an):∀m,(rX q t (List.range m)).flatMap partOf=(List.range m).flatMap (chunk t)
 |0=>rfl
 |m+1=>by rw[uP,ab3,vZ,vZ,ab2 q t m];congr 1;simp only[yS,List.flatMap_nil,pn];exact(abT (Rp t m)).2
theorem apI(q:Int)(t:an):(rX q t (List.range (fs t.length))).flatMap partOf=t:=by rw[ab2,chunks,hc];unfold fs;omega
theorem apH{q:Int}{t:an}{xs:List Nat}:∀bl∈rX q t xs,said bl<=52:=λbl h=>by unfold rX at h;obtain⟨i,o,rfl⟩:=O9.1 h;have h:=Rp t xs[i];rw[(abT h).1];omega
abbrev Mj:=bR×Int×Int×Int×Int
open Classical in
noncomputable def zx(pgs:List an):Mj:=if Good pgs then(n4 pgs,nt pgs,kM pgs,td pgs,0)else(cp [],0,0,0,11)
theorem X5{pgs:List an}(h:Good pgs):zx pgs=(n4 pgs,nt pgs,kM pgs,td pgs,0):=by unfold zx;rw[aS h]
theorem X4{pgs:List an}(h:¬Good pgs):zx pgs=(cp [],0,0,0,11):=by unfold zx;rw[aM h]
def aiC(a:Mj)(w:World)(v:Value)(w':World):Prop:=∃ps,v=.tuple #[.agg (bK a.1 ps).toArray,.agg (two a.2.1 a.2.2.1).toArray,.int .i64 a.2.2.2.1,.int .i64 a.2.2.2.2]/\fp w' a.1 ps/\η w w'
theorem akr{pgs:List an}(ψ:∀bl∈pgs,Bytes bl){p:J}{n c:Nat}(ax:n<=9223372036854775807){w:World}(hp:qx w p n c pgs):oJ.C p n c w (χ (aiC (zx pgs) w)):=by
 by_cases bJ:Good pgs
 ·rw[X5 bJ];refine(Xa hp ψ ax).mono λe w'⟨v,he,I,h⟩=>⟨v,he,?_⟩;rcases h with⟨_,ps,aJ,bV⟩|⟨h,_⟩
  ·exact⟨ps,aJ,bV,I⟩
  ·exact absurd bJ h
 ·rw[X4 bJ];refine(Xa hp ψ ax).mono λe w'⟨v,he,I,h⟩=>⟨v,he,?_⟩;rcases h with⟨h,_⟩|⟨_,aJ⟩
  ·exact absurd h bJ
  ·exact⟨_,aJ,fp.zero w',I⟩
theorem aqd{n:Int}(h:0<=n/\n<4294967296):bt.num (bt.be 4 n)=n:=by simp[bt.be,bt.num];omega
theorem S7(H:gz)(t:an)(a:Nat)(l:Nat)(h1:1<=l)(cq:l<=4)(aQ:a+l<=17):c9 (nh H t) a l=bt.num (((rJ H t).drop a).take l):=by
 have aj:=G7 H t;have wQ:((nh H t).take 60).length=60:=by unfold nh;rw[gQ,xE (by omega)];rfl
 unfold c9;rw[(bt.Sw (by omega) (by omega) (n:=((nh H t).take 60).length) rfl (by omega) (by omega)).1];unfold nh;rw[cy,cy,KQ (by omega) a l (by omega)]
theorem am3{H:gz}(t:an)(h:0<=H.q/\H.q<4294967296):c9 (nh H t) 4 4=H.q:=by
 have:=S7 H t 4 4 (by omega) (by omega) (by omega)
 have aC:=aqd h;obtain⟨a,b,c,d,he⟩:=Je H.q;rw[he]at aC;have e:((rJ H t).drop 4).take 4=[a,b,c,d]:=by unfold rJ BB yp lK;rw[he];simp[la]
 rw[e,aC]at this;exact this
theorem am4(H:gz)(t:an):c9 (nh H t) 8 1=H.s:=by
 have:=S7 H t 8 1 (by omega) (by omega) (by omega)
 obtain⟨a,b,c,d,he⟩:=Je H.q;have e:((rJ H t).drop 8).take 1=[H.s]:=by unfold rJ BB yp lK;rw[he];simp[la]
 rw[e]at this;simpa[bt.num]using this
theorem am1(H:gz)(t:an):c9 (nh H t) 9 1=H.k:=by
 have:=S7 H t 9 1 (by omega) (by omega) (by omega)
 obtain⟨a,b,c,d,he⟩:=Je H.q;have e:((rJ H t).drop 9).take 1=[H.k]:=by unfold rJ BB yp lK;rw[he];simp[la]
 rw[e]at this;simpa[bt.num]using this
theorem apj{s k q:Int}{R:bR}(aC:uI q)(j9:lG s k R)(aB:∀e∈R,lz e)(dr:R.length=8):
  Good (ix s k q (eQ k R))/\n4 (ix s k q (eQ k R))=R/\nt (ix s k q (eQ k R))=s/\kM (ix s k q (eQ k R))=k/\td (ix s k q (eQ k R))=q:=by
 obtain⟨cG,fM⟩:=arX j9 aB dr;have NV:=HL dr j9.1.2.1 k;have ψ:=Us aC j9 aB dr;generalize aP:eQ k R=t at cG fM NV ψ⊢;have dS:yo (ix s k q t)=nh (yq s k q t) t:=rfl;have Eg:(ix s k q t).tail=rX q t (List.range (cL.fs t.length)):=rfl;have es:nt (ix s k q t)=s:=by unfold nt;rw[dS,am4];rfl
 have Bq:kM (ix s k q t)=k:=by unfold kM;rw[dS,am1];rfl
 have eq:td (ix s k q t)=q:=by unfold td;rw[dS,am3 t ⟨by have:=aC.1;show 0<=q;omega,by have:=aC.2;show q<_;omega⟩];rfl
 have Jq:c9 (nh (yq s k q t) t) 10 1=(cL.fs t.length:Int):=am0 _ _;have qK:Cq (ix s k q t)=t:=by unfold Cq;rw[Eg];exact apI _ _
 have R8:n4 (ix s k q t)=R:=by unfold n4;rw[Bq,qK];exact fM
 have hlen:=JQ s k q t;have aax:cL.fs t.length<=11:=by unfold cL.fs;omega
 have yw:∀bl∈ix s k q t,nq bl=0:=λbl h=>by
  unfold ix at h;rcases fA.1 h with rfl|h
  ·exact(acY (by rw[G7];omega)).1
  ·unfold rX at h;obtain⟨i,o,rfl⟩:=O9.1 h
   have:=Rp t (List.range (cL.fs t.length))[i]
   exact(acY (by rw[Og];omega)).1
 refine⟨⟨by rw[hlen];omega,by rw[hlen];omega,?_,by rw[dS,Jq,hlen];omega,λbl h=>?_,by rw[Bq,qK];exact cG,by rw[es,Bq,R8];exact j9,by rw[es,Bq,eq,R8,aP]⟩,R8,es,Bq,eq⟩
 ·rw[dS];have o7:By (nh (yq s k q t) t):=⟨yw _ (n2 ..),am2 _ _⟩;have iZ:c9 (nh (yq s k q t) t) 4 4=q:=eq;unfold mh;rw[bB o7,iZ,Jq,bB aC.1,bB aC.2,bB (show(cL.fs t.length:Int)<12 by omega)];rfl
 ·unfold BW;rw[bB (yw bl (VB h))];rw[Eg]at h;rw[bB (apH bl h)];rfl
end Go.Proofs.YtcpdfhkhaekekaaGreat.G.cL
namespace Go.Proofs.YtcpdfhkhaekekaaGreat.G.c5
open Go.bO Go.RowKit cL
def vS(d:a6.c3)(at_:Nat):List an:=match d.now[at_]?with
 |none=>[]
 |some s=>if mh s=true/\(c9 s 4 4%2)*12=(at_:Int)then(d.now.drop at_).take (1+(c9 s 10 1).toNat)else[]
theorem Vi{d:a6.c3}{at_:Nat}{s:an}(h:d.now[at_]?=some s):vS d at_=if mh s=true/\(c9 s 4 4%2)*12=(at_:Int)then(d.now.drop at_).take (1+(c9 s 10 1).toNat)else[]:=by unfold vS;rw[h]
theorem aq5{d:a6.c3}(bJ:a6.Good d)(at_:Nat):∀bl∈vS d at_,Bytes bl:=λbl h=>by
 have key:bl∈d.now:=by
  unfold vS at h;split at h
  ·cases h
  ·split at h
   ·exact HY (vW h)
   ·cases h
 exact(bJ.now bl key).2
theorem am8{s:an}(h:mh s=true):c9 s 10 1<12:=by unfold mh at h;simp only[kx,po]at h;exact h.2
theorem drop_take{l:List an}{a j:Nat}{s:an}(h:l[a+j]?=some s):(l.drop a).take (j+1)=(l.drop a).take j++[s]:=by rw[O8,List.getElem?_drop,h];rfl
structure xX(w:World)(d:a6.c3)(at_ B:Nat)(p:J)(n c j:Nat)(W:World):Prop where
 ex:η w W
 num:n=j
 row:∃rs,μ W B gI 1 p n c rs/\jy W 0 rs ((d.now.drop at_).take j)
theorem xX.OL{w:World}{d:a6.c3}{at_ B:Nat}{p:J}{n c j:Nat}{W:World}(h:xX w d at_ B p n c j W):qx W p n c ((d.now.drop at_).take j):=by obtain⟨_,_,rs,ε,g⟩:=h;exact g.OL ε
theorem xX.first{w W:World}{d:a6.c3}{at_:Nat}{p:J}{c B:Nat}{s:an}(I:η w W)(ε:μ W B dk 1 p 64 c (bj s))(ω:d.now[at_]?=some s){N:Nat->ao}
  (K:∀b w',w.heap.size<=b->xX w d at_ w.heap.size (some ⟨b,0,none⟩) 1 1 1 w'->N b w'):aN W #[.slice p 64 c] gI N:=by
 rintro b w' rfl rfl;have ρ:=μ.new (w:=W) [.slice p 64 c] gI;have ζ:=η.alloc W (.cells [Value.slice p 64 c].toArray gI);have hw:=I.size;refine K _ _ hw ⟨I.trans ζ,rfl,[.slice p 64 c],ρ.lower hw,?_⟩;have e:(d.now.drop at_).take 1=[]++[s]:=by
  have:=drop_take (l:=d.now) (a:=at_) (j:=0) (s:=s) ω
  simpa using this
 rw[e];exact(jy.nil _ _).snoc ((ε.lower (en _)).ex ζ)
theorem xX.next{w W b6:World}{d:a6.c3}{at_:Nat}{p:J}{n c j:Nat}(h:xX w d at_ w.heap.size p n c j W)(I:η W b6){q:J}{e B:Nat}{s:an}(ε:μ b6 B dk 1 q 64 e (bj s))(ω:d.now[at_+j]?=some s)(φ:j<=1000){N:J->Nat->ao}
  (K:∀bT aT w',xX w d at_ w.heap.size bT (n+1) aT (j+1) w'->N bT aT w'):
  aN b6 #[.slice q 64 e] gI λθ c6=>gK c6 p n c 1 (a7 c6 (some ⟨θ,0,none⟩)) gI 1 24 #[(Value.slice none 0 0)] λbh bI cA=>N bh bI cA:=by
 obtain⟨hex,rfl,rs,aqL,ly⟩:=h;rintro b w' rfl rfl;have ρ:=μ.new (w:=b6) [.slice q 64 e] gI;have ζ:=η.alloc b6 (.cells [Value.slice q 64 e].toArray gI);generalize b6.alloc (.cells #[.slice q 64 e] gI)=c6 at ρ ζ⊢;have ri:=I.trans ζ;have aj:=aqL.ex ri;have N6:=hex.trans ri;refine lp (B:=w.heap.size) aj N6.size [.slice q 64 e] ρ.cells rfl aee rfl (by omega) (by omega) ?_;intro bh bI cA r0 yF;have jW:∀i,(∃y,p=some y/\y.block=i)->Typed c6 gI i:=λi⟨y,e,o⟩=>o▸(aj.typed e).1;refine K bh bI cA ⟨N6.then yF λi⟨y,e,o⟩=>by have:=(aj.ge e).1;omega,rfl,rs++[.slice q 64 e],r0,?_⟩;rw[drop_take ω];exact((ly.ex ri).cB yF gI jW (by decide)).snoc (((ε.lower (en _)).ex ζ).cB yF gI jW (by decide))
theorem Re{q:Int}(h:0<=q/\q<=4294967296)(w:World):Fx.C q w (χ λv w'=>v=.int .i64 ((q%2)*12)/\w'=w):=by apply Fx.ok;unfold Fx.main;refine χ.mk ⟨?_,rfl⟩;rw[H9 h.1,bY (x:=q%2*12) (by omega) (by omega),bY (by omega) (by omega),Int.zero_add]
structure Live(w:World)(B pd:Nat)(d:a6.c3)(D:bf):Prop where
 dev:a6.gV w B pd d D
 fa:a6.Good d
 off:d.off=false
 len:40<=d.now.length
theorem Live.ex{w w':World}{B pd:Nat}{d:a6.c3}{D:bf}(h:Live w B pd d D)(x:η w w'):Live w' B pd d D:=⟨h.dev.ex x,h.fa,h.off,h.len⟩
theorem Live.get{w:World}{B pd:Nat}{d:a6.c3}{D:bf}(h:Live w B pd d D){i:Int}{i':Nat}(o:i=i')(wQ:i'<40):Bi.C (some ⟨pd,0,none⟩) i w (χ λv w'=>∃p c s,d.now[i']?=some s/\v=.tuple #[.slice p 64 c,.int .i64 0]/\μ w' w.heap.size dk 1 p 64 c (bj s)/\η w w'):=by
 subst o;refine(a6.xW h.dev h.fa (i':Int)).mono λe w'⟨v,he,I,υ⟩=>⟨v,he,?_⟩;have aD:a6.sT d (i':Int)=0:=by unfold a6.sT;rw[h.off,aM (by decide),aM (by have:=h.len;omega)]
 rcases υ with⟨ax,_⟩|⟨_,p,c,s,ω,rfl,ε⟩
 ·exact absurd aD ax
 ·exact⟨p,c,s,by simpa using ω,rfl,ε,I⟩
theorem aqU{w:World}{B pd:Nat}{d:a6.c3}{D:bf}(h:Live w B pd d D){at_:Nat}(qM:at_<=12):tm.C (some ⟨pd,0,none⟩) at_ w (χ λv w'=>∃p n c,v=.tuple #[.slice p n c,.int .i64 0]/\qx w' p n c (vS d at_)/\n<=100/\η w w'):=by
 apply tm.ok;unfold tm.main;refine κ.use (h.get rfl (by omega)) ?_;rintro _ γ ⟨ab,c1,s,ω,rfl,ρ,ζ⟩
 try dsimp only[bX,cC,cD,bk,bH,dY]
 rw[cond_neg (by rfl)];have lO:=h.fa.now s (eZ ω);refine κ.use (ahK ab 64 c1 s γ ρ.cells lO.1 ρ.2.1 lO.2) ?_;rintro _ aa ⟨rfl,ad⟩;have gb:=ζ.trans ad;have GN:=Vi ω;have none_:∀{w':World},η w w'->vS d at_=[]->χ (λv w'=>∃p n c,v=.tuple #[.slice p n c,.int .i64 0]/\qx w' p n c (vS d at_)/\n<=100/\η w w') (.returned (.tuple #[.slice none 0 0,.int .i64 0])) w':=λI he=>by refine χ.mk ⟨none,0,0,rfl,?_,by omega,I⟩;rw[he];exact⟨rfl,ew _,[],rfl,rfl,λi bl o=>by simp at o⟩
 unfold Rv;cases dt:mh s with
 |false=>
  rw[dt,aM λh=>by cases h.1]at GN
  try dsimp only[bX]
  have e:(bt.v64 (if false=true then[c9 s 10 1,c9 s 4 4,0]else[0,0,11])).toArray=#[.int .i64 0,.int .i64 0,.int .i64 11]:=rfl;rw[e]
  try dsimp only[cC,cD,mK,bk,bH]
  rw[cond_pos (by rfl)];exact none_ gb GN
 |true=>
  obtain⟨NZ,o7⟩:=aaE dt;have aw2:=am8 dt;have S3:=ZI lO.2 10;have e:(bt.v64 (if true=true then[c9 s 10 1,c9 s 4 4,0]else[0,0,11])).toArray=#[.int .i64 (c9 s 10 1),.int .i64 (c9 s 4 4),.int .i64 0]:=rfl;rw[e]
  try dsimp only[bX,cC,cD,mK,bk,bH]
  rw[cond_neg (by rfl)];refine κ.use (Re (q:=c9 s 4 4) ⟨by have:=NZ.1;omega,by have:=NZ.2;omega⟩ aa) ?_;rintro _ aE ⟨rfl,h3⟩;obtain rfl:=h3.symm
  try dsimp only[bH]
  refine bz (λca=>?_) λca=>?_
  ·have ca:¬(c9 s 4 4%2)*12=(at_:Int):=by simpa using ca
   rw[aM λh=>ca h.2]at GN;exact none_ gb GN
  have ca:(c9 s 4 4%2)*12=(at_:Int):=by simpa using ca
  rw[dt,aS ⟨rfl,ca⟩]at GN;refine xX.first gb (ρ.ex ad) ω λδ bm ej pY=>?_;unfold tm.bd;refine⟨λt0 t1 e7 eV fi t39 t40 W=>t0=some ⟨pd,0,none⟩/\(at_:Int)=t1/\c9 s 10 1=t39/\0<=t40/\t40<=c9 s 10 1/\xX w d at_ w.heap.size e7 eV fi (1+t40.toNat) W,λt0 t1 e7 eV fi t39 t40 W=>(c9 s 10 1-t40).toNat,⟨rfl,rfl,rfl,by omega,by omega,pY⟩,?_⟩;rintro _ _ e7 eV fi _ t40 W ⟨rfl,rfl,rfl,i0,i1,pY⟩;unfold tm.δ;obtain⟨j,rfl⟩:=eH i0;rw[cy]at pY;refine bz (λπ=>?_) λπ=>?_
  ·have π:=b7 π;rw[bY (x:=(at_:Int)+1) (by omega) (by omega),bY (x:=(at_:Int)+1+j) (by omega) (by omega)];refine κ.use ((h.ex pY.ex).get (i:=(at_:Int)+1+j) (i':=at_+(1+j)) (by omega) (by omega)) ?_;rintro _ b5 ⟨aX,c2,s2,Kd,rfl,e6,cg⟩
   try dsimp only[bX,cC,cD,bk,bH,dY]
   rw[cond_neg (by rfl)];refine xX.next pY cg e6 Kd (by omega) λbT aT w' oy=>?_;have kY:IntKind.i64.wrap ((j:Int)+1)=((j+1:Nat):Int):=by rw[bY (by omega) (by omega)];rfl
   rw[kY];exact⟨⟨rfl,rfl,rfl,by omega,by omega,oy⟩,by((try dsimp only);omega)⟩
  ·have π:=dd π;have φ:j=(c9 s 10 1).toNat:=by omega
   subst φ;have hp:=pY.OL;rw[<-GN]at hp;refine χ.mk ⟨e7,eV,fi,rfl,hp,?_,pY.ex⟩
   have:=pY.num
   omega
abbrev Acc:=bR×Int×Int×Int
def Ra:Acc:=(cp [],0,0,0)
def AU(c:Acc)(a:Mj):Acc:=if a.2.2.2.2=0/\c.2.2.2<a.2.2.2.1 then(a.1,a.2.1,a.2.2.1,a.2.2.2.1)else c
noncomputable def vm(d:a6.c3):Nat->Acc
 |0=>Ra
 |i+1=>AU (vm d i) (zx (vS d (12*i)))
structure Kept(w:World)(δ θ:Nat)(c:Acc)(W:World):Prop where
 ex:η w W
 axL:w.heap.size<=δ
 axM:w.heap.size<=θ
 ne:True
 row:∃ps,μ W 0 bU 24 (some ⟨δ,0,none⟩) 1 1 (bK c.1 ps)/\fp W c.1 ps
 vT:μ W 0 b2 2 (some ⟨θ,0,none⟩) 1 1 (two c.2.1 c.2.2.1)
theorem Kept.more{w W b6:World}{δ θ:Nat}{c:Acc}(h:Kept w δ θ c W)(x:η W b6):Kept w δ θ c b6:=by obtain⟨h1,ι,aG,_,⟨ps,cq,db⟩,hy⟩:=h;exact⟨h1.trans x,ι,aG,trivial,⟨ps,cq.ex x,db.ex x⟩,hy.ex x⟩
theorem Kept.step{w W:World}{δ θ:Nat}{c:Acc}(h:Kept w δ θ c W){a:Mj}{ps:aU}(bV:fp W a.1 ps){t:Int}(aP:t=c.2.2.2){N:Int->ao}
  (K:∀b6 mx,mx=(AU c a).2.2.2->Kept w δ θ (AU c a) b6->Kp W b6 (λi=>i=δ\/i=θ\/W.heap.size<=i)->N mx b6):
  aN W hn.toArray bU λfq fE=>
  aN fE #[(Value.int .i64 0),(Value.int .i64 0)] b2 λiv eD=>
  ο (decide ((bK a.1 ps).toArray.size=24)) (
   hr eD (⟨fq,0,none⟩:Addr) (bK a.1 ps)/\∀fv,fv=eD.setCells (⟨fq,0,none⟩:Addr).block (⟨fq,0,none⟩:Addr).off (bK a.1 ps)->
   (ο (decide ((two a.2.1 a.2.2.1).toArray.size=2)) (
     hr fv (⟨iv,0,none⟩:Addr) (two a.2.1 a.2.2.1)/\∀eJ,eJ=fv.setCells (⟨iv,0,none⟩:Addr).block (⟨iv,0,none⟩:Addr).off (two a.2.1 a.2.2.1)->
     (cond (a.2.2.2.2==0) (
      cond (decide (a.2.2.2.1>t)) (
       ∃(cE:ag),cE.size=24/\aw eJ.drew (⟨fq,0,none⟩:Addr) cE.toList/\
       (∃(dM:ag),dM.size=2/\aw eJ.drew (⟨iv,0,none⟩:Addr) dM.toList/\
        (ο (decide (cE.size=24)) (
         hr eJ.drew (⟨δ,0,none⟩:Addr) cE.toList/\∀hZ,hZ=eJ.drew.setCells (⟨δ,0,none⟩:Addr).block (⟨δ,0,none⟩:Addr).off cE.toList->
         (ο (decide (dM.size=2)) (
         aw hZ (⟨iv,0,none⟩:Addr) dM.toList/\
         (ο (decide (dM.size=2)) (
         hr hZ (⟨θ,0,none⟩:Addr) dM.toList/\∀fw,fw=hZ.setCells (⟨θ,0,none⟩:Addr).block (⟨θ,0,none⟩:Addr).off dM.toList->
         N a.2.2.2.1 fw))))))))
       (N t eJ))
      (N t eJ))))):=by
 subst aP;rintro fq fE rfl rfl iv eD rfl rfl;rw[Gg];have bS:=μ.new (w:=W) hn bU;have sx:=η.alloc W (.cells hn.toArray bU);have yl:W.heap.size<=W.heap.size:=ew _;generalize awZ:W.heap.size=fq at bS yl⊢;have yl:W.heap.size<=fq:=by omega
 generalize W.alloc (.cells hn.toArray bU)=fE at bS sx⊢;have er:=μ.new (w:=fE) (two 0 0) b2;have od:=η.alloc fE (.cells (two 0 0).toArray b2);have Bz:=sx.size;generalize fE.heap.size=iv at er Bz⊢;generalize fE.alloc (.cells (two 0 0).toArray b2)=eD at er od⊢;have bS:=bS.ex od;have fV:=bV.at.dU;refine bL (bB (by rw[fh];exact fV)) ?_;have t6:∀i,i=fq->Typed eD bU i:=λi o=>by rw[o];exact(bS.typed rfl).1
 refine bS.put (cs:=bK a.1 ps) fV bV.at.one λfv BR kn=>?_;have er:=er.cB BR bU t6 (by decide);refine bL (by rfl) ?_;have t7:∀i,i=iv->Typed fv b2 i:=λi o=>by rw[o];exact(er.typed rfl).1
 refine er.put (cs:=two a.2.1 a.2.2.1) (by rfl) mW λeJ Ac Am=>?_;have kn:=kn.cB Ac b2 t7 (by decide);have nA:η W eJ:=((sx.trans od).then BR λi o=>by omega).then Ac λi o=>by omega
 have Z3:=h.more nA;have dA:¬(a.2.2.2.2=0/\c.2.2.2<a.2.2.2.1)->N c.2.2.2 eJ:=λax=>by
  have e:AU c a=c:=by unfold AU;rw[aM ax]
  refine K eJ _ (by rw[e]) (by rw[e];exact Z3) (nA.mono λi _ h=>h.elim)
 refine bz (λhe=>?_) λhe=>?_
 ·have he:a.2.2.2.2=0:=by simpa using he
  refine bz (λaC=>?_) λaC=>?_
  ·have aC:c.2.2.2<a.2.2.2.1:=by simpa using aC
   have e:AU c a=(a.1,a.2.1,a.2.2.1,a.2.2.2.1):=by unfold AU;rw[aS ⟨he,aC⟩]
   have d:=η.drew eJ;obtain⟨I,bd,fG,_,⟨qs,g1,g2⟩,g3⟩:=Z3.more d;have abp:=(bV.ex nA).ex d;have aqf:=kn.ex d;have acB:=Am.ex d;refine⟨(bK a.1 ps).toArray,by rw[fh];exact fV,aqf.cells,(two a.2.1 a.2.2.1).toArray,rfl,acB.cells,bL (bB (by rw[fh];exact fV)) ?_⟩;have t1:∀i,i=δ->Typed eJ.drew bU i:=λi o=>by rw[o];exact(g1.typed rfl).1
   refine g1.put (cs:=bK a.1 ps) fV abp.at.one λhZ Ad vL=>?_;have aqg:=acB.cB Ad bU t1 (by decide);have g3:=g3.cB Ad bU t1 (by decide);refine bL (by rfl) ⟨aqg.cells,bL (by rfl) ?_⟩;have t2:∀i,i=θ->Typed hZ b2 i:=λi o=>by rw[o];exact(g3.typed rfl).1
   refine g3.put (cs:=two a.2.1 a.2.2.1) (by rfl) mW λfw vI B1=>?_;refine K fw _ (by rw[e]) ?_ ?_
   ·rw[e];exact⟨(I.then Ad λi o=>by omega).then vI λi o=>by omega,bd,fG,trivial,⟨ps,vL.cB vI b2 t2 (by decide),(abp.cB Ad bU t1 (by decide)).cB vI b2 t2 (by decide)⟩,B1⟩
   ·refine Kp.trans ((nA.trans d).aH _) (Kp.trans Ad vI (U:=λi=>i=δ\/i=θ\/W.heap.size<=i) (λi _ o=>.inl o) λi _ o=>.inr (.inl o)) (λ_ _ h=>h) λ_ _ h=>h
  ·have aC:¬c.2.2.2<a.2.2.2.1:=by simpa using aC
   exact dA λh=>aC h.2
 ·have he:¬a.2.2.2.2=0:=by simpa using he
  exact dA λh=>he h.1
def Xr(w:World)(pd δ θ:Nat)(d:a6.c3)(t0:J)(t2 t3:Nat)(t4 t17:Int)(W:World):Prop:=
 t0=some ⟨pd,0,none⟩/\δ=t2/\θ=t3/\0<=t17/\t17<=2/\t4=(vm d t17.toNat).2.2.2/\Kept w δ θ (vm d t17.toNat) W
def QN(c:Acc)(w:World)(v:Value)(w':World):Prop:=
 (∃ps,v=.tuple #[.agg (bK c.1 ps).toArray,.agg (two c.2.1 c.2.2.1).toArray,.int .i64 c.2.2.2,.int .i64 (if c.2.2.2=0 then 11 else 0)]/\fp w' c.1 ps)/\η w w'
theorem Kept.out{w W:World}{δ θ:Nat}{c:Acc}(h:Kept w δ θ c W){N:ag->ag->ao}(K:∀ps w',η w w'->fp w' c.1 ps->N (bK c.1 ps).toArray (two c.2.1 c.2.2.1).toArray w'):
  ∃(jO:ag),jO.size=24/\aw W.drew (⟨δ,0,none⟩:Addr) jO.toList/\
  (∃(j0:ag),j0.size=2/\aw W.drew (⟨θ,0,none⟩:Addr) j0.toList/\
   (ο (decide (jO.size=24)) (
    hr W.drew (⟨δ,0,none⟩:Addr) jO.toList/\∀fv,fv=W.drew.setCells (⟨δ,0,none⟩:Addr).block (⟨δ,0,none⟩:Addr).off jO.toList->
    (ο (decide (j0.size=2)) (
     aw fv (⟨θ,0,none⟩:Addr) j0.toList/\
     (ο (decide (j0.size=2)) (
      hr fv (⟨θ,0,none⟩:Addr) j0.toList/\∀eJ,eJ=fv.setCells (⟨θ,0,none⟩:Addr).block (⟨θ,0,none⟩:Addr).off j0.toList->
      (∃(mb:ag),mb.size=24/\aw eJ (⟨δ,0,none⟩:Addr) mb.toList/\
       (∃(mc:ag),mc.size=2/\aw eJ (⟨θ,0,none⟩:Addr) mc.toList/\
        N mb mc eJ))))))))):=by
 obtain⟨I,bd,fG,_,⟨ps,g1,g2⟩,g3⟩:=h.more (η.drew W);have fV:=g2.at.dU;refine⟨(bK c.1 ps).toArray,by rw[fh];exact fV,g1.cells,(two c.2.1 c.2.2.1).toArray,rfl,g3.cells,bL (bB (by rw[fh];exact fV)) ?_⟩;have t1:∀i,i=δ->Typed W.drew bU i:=λi o=>by rw[o];exact(g1.typed rfl).1
 refine g1.put (cs:=bK c.1 ps) fV g2.at.one λaa cd bo=>?_;have Bu:=g3.cB cd bU t1 (by decide);refine bL (by rfl) ⟨Bu.cells,bL (by rfl) ?_⟩;have t2:∀i,i=θ->Typed aa b2 i:=λi o=>by rw[o];exact(Bu.typed rfl).1
 refine Bu.put (cs:=two c.2.1 c.2.2.1) (by rfl) mW λaz cz cx=>?_;exact⟨(bK c.1 ps).toArray,by rw[fh];exact fV,(bo.cB cz b2 t2 (by decide)).cells,(two c.2.1 c.2.2.1).toArray,rfl,cx.cells,K ps az ((I.then cd λi o=>by omega).then cz λi o=>by omega) ((g2.cB cd bU t1 (by decide)).cB cz b2 t2 (by decide))⟩
theorem Kept.first{w:World}{N:Nat->Nat->ao}(K:∀δ θ W,w.heap.size<=δ->Kept w δ θ Ra W->N δ θ W):aN w hn.toArray bU λδ γ=>aN γ #[(Value.int .i64 0),(Value.int .i64 0)] b2 λθ τ=>N δ θ τ:=by
 rintro δ γ rfl rfl θ τ rfl rfl;rw[Gg];have ρ:=(μ.new (w:=w) hn bU).lower (en _);have ζ:=η.alloc w (.cells hn.toArray bU);have ej:w.heap.size<=w.heap.size:=ew _;generalize SR:w.heap.size=δ at ρ ej⊢;have ej:w.heap.size<=δ:=by omega
 generalize w.alloc (.cells hn.toArray bU)=γ at ρ ζ⊢;have ai:=(μ.new (w:=γ) (two 0 0) b2).lower (en _);have σ:=η.alloc γ (.cells (two 0 0).toArray b2);have eu:w.heap.size<=γ.heap.size:=ζ.size;generalize γ.heap.size=θ at ai eu⊢;generalize γ.alloc (.cells (two 0 0).toArray b2)=τ at ai σ⊢;exact K δ θ τ (by omega) ⟨ζ.trans σ,ej,eu,trivial,⟨_,ρ.ex σ,fp.zero _⟩,ai⟩
theorem QO{w:World}{B pd:Nat}{d:a6.c3}{D:bf}(h:Live w B pd d D):oX.C (some ⟨pd,0,none⟩) w (χ (QN (vm d 2) w)):=by
 apply oX.ok;unfold oX.main;refine Kept.first (N:=λδ θ W=>cond _ _ (oX.bd _ δ θ 0 0 W _)) λδ θ τ _ hk=>?_;rw[cond_neg (by rfl)];unfold oX.bd;refine⟨Xr w pd δ θ d,λt0 t2 t3 t4 t17 W=>(2-t17).toNat,⟨rfl,rfl,rfl,by omega,by omega,rfl,hk⟩,?_⟩;clear hk;rintro _ _ _ _ t17 W ⟨rfl,rfl,rfl,i0,i1,rfl,hk⟩;unfold oX.δ;obtain⟨i,rfl⟩:=eH i0;rw[cy]at hk⊢;refine bz (λπ=>?_) λπ=>?_
 ·have π:=b7 π;refine κ.use (Re (q:=(i:Int)) ⟨by omega,by omega⟩ W) ?_;rintro _ aE ⟨rfl,h3⟩;obtain rfl:=h3.symm
  try dsimp only[bH]
  have Dz:(i:Int)%2*12=((12*i:Nat):Int):=by omega
  rw[Dz];refine κ.use (aqU (h.ex hk.ex) (at_:=12*i) (by omega)) ?_;rintro _ bm ⟨p,n,c,rfl,hp,ax,aV⟩
  try dsimp only[bX,cC,cD,bk,bH,dY]
  rw[cond_neg (by rfl)];refine κ.use (akr (aq5 h.fa _) (by omega) hp) ?_;rintro _ cA ⟨ps,rfl,bV,fl⟩
  try dsimp only[bX,cC,cD,mK,Sr,bk,bH,hx,ie]
  refine Kept.step (hk.more (aV.trans fl)) bV rfl (N:=λmx b6=>Xr w pd δ θ d (some ⟨pd,0,none⟩) δ θ mx (IntKind.i64.wrap ((i:Int)+1)) b6/\(2-IntKind.i64.wrap ((i:Int)+1)).toNat<(2-(i:Int)).toNat) λb6 mx aP nO _=>?_;have kY:IntKind.i64.wrap ((i:Int)+1)=((i+1:Nat):Int):=by rw[bY (by omega) (by omega)];rfl
  rw[kY];exact⟨⟨rfl,rfl,rfl,by omega,by omega,aP,nO⟩,by((try dsimp only);omega)⟩
 ·have π:=dd π;obtain rfl:i=2:=by omega
  unfold oX.a1;refine bz (λaD=>?_) λaD=>?_
  ·have aD:(vm d 2).2.2.2=0:=by simpa using aD
   refine hk.out (N:=λa b W=>χ (QN (vm d 2) w) (.returned (.tuple #[.agg a,.agg b,.int .i64 0,.int .i64 11])) W) λps w' x st=>χ.mk ⟨⟨ps,?_,st⟩,x⟩;rw[aD,aS rfl]
  ·have aD:¬(vm d 2).2.2.2=0:=by simpa using aD
   refine hk.out (N:=λa b W=>χ (QN (vm d 2) w) (.returned (.tuple #[.agg a,.agg b,.int .i64 (vm d 2).2.2.2,.int .i64 0])) W) λps w' x st=>χ.mk ⟨⟨ps,?_,st⟩,x⟩;rw[aM aD]
open Tryz
def kK(d:a6.c3):a6.c3:={d with sure:=d.now,loose:=[]}
def mu(d:a6.c3)(i:Int):List an->a6.c3
 |[]=>d
 |x::r=>mu (a6.da d i x) (i+1) r
def pJ(q:Int):Int:=q%2*12
def uR(d:a6.c3)(s k q:Int)(R:bR):a6.c3:=
 kK (a6.da (kK (mu d (pJ q+1) (ix s k q (eQ k R)).tail)) (pJ q) ((ix s k q (eQ k R)).headD []))
theorem Vr(x:an):∀(l:List an)(d:a6.c3)(i:Int),mu d i (l++[x])=a6.da (mu d i l) (i+l.length) x
 |[],d,i=>by show a6.da d i x=_;simp[mu]
 |y::l,d,i=>by show mu (a6.da d i y) (i+1) (l++[x])=a6.da (mu (a6.da d i y) (i+1) l) _ x;rw[Vr x l];congr 1;simp only[k5];omega
structure gW(w0:World)(dV:bf)(w:World)(B pd:Nat)(d:a6.c3)(D:bf)(k:Nat):Prop where
 dev:a6.gV w B pd d D
 fa:a6.Good d
 off:d.off=false
 after:d.after=-1
 len:40<=d.now.length
 fT:d.loose.length<=k
 low:B<=w0.heap.size
 aH:Kp w0 w dV
 sub:∀i,D i->dV i\/w0.heap.size<=i
theorem gW.start{w:World}{B pd:Nat}{d:a6.c3}{D:bf}{k:Nat}(h:a6.gV w B pd d D)(bJ:a6.Good d)(aB:d.off=false)(aQ:d.after=-1)(aj:40<=d.now.length)(bg:d.loose.length<=k)(dW:B<=w.heap.size):gW w D w B pd d D k:=
 ⟨h,bJ,aB,aQ,aj,bg,dW,Kp.refl _ _,λi h=>.inl h⟩
theorem gW.ex{w0 w w':World}{dV:bf}{B pd:Nat}{d:a6.c3}{D:bf}{k:Nat}(h:gW w0 dV w B pd d D k)(x:η w w'):gW w0 dV w' B pd d D k:=
 ⟨h.dev.ex x,h.fa,h.off,h.after,h.len,h.fT,h.low,h.aH.fZ (x.aH _),h.sub⟩
theorem gW.done{w0 w:World}{dV:bf}{B pd:Nat}{d:a6.c3}{D:bf}{k:Nat}(h:gW w0 dV w B pd d D k):a6.Cz w0 B pd d dV w:=⟨D,h.dev,h.fa,h.aH,h.sub⟩
theorem gW.live{w0 w:World}{dV:bf}{B pd:Nat}{d:a6.c3}{D:bf}{k:Nat}(h:gW w0 dV w B pd d D k):Live w B pd d D:=⟨h.dev,h.fa,h.off,h.len⟩
theorem gW.dA{w0 w w':World}{dV:bf}{B pd:Nat}{d:a6.c3}{D:bf}{k:Nat}(h:gW w0 dV w B pd d D k)(aH:Kp w w' D){B':Nat}{e:TypeId}{sz:Nat}{p:J}{n c:Nat}{xs:aU}(ε:μ w B' e sz p n c xs)(h1:e≠P1)(ι:e≠P2)(aG:e≠P3):μ w' B' e sz p n c xs:=
 a6.KI h.dev aH ε h1 ι aG
theorem gW.Rb{w0 w w':World}{dV:bf}{B pd:Nat}{d d':a6.c3}{D:bf}{k k':Nat}(h:gW w0 dV w B pd d D k)(a:a6.Cz w B pd d' D w')(aB:d'.off=d.off)(aQ:d'.after=d.after)(aj:d'.now.length=d.now.length)(bg:d'.loose.length<=k'):∃bb,gW w0 dV w' B pd d' bb k'/\Kp w w' D:=by
 obtain⟨bb,h1,ι,aG,cq⟩:=a;refine⟨bb,⟨h1,ι,aB.trans h.off,aQ.trans h.after,by rw[aj];exact h.len,bg,h.low,Kp.trans h.aH aG (λ_ _ h=>h) λi o af=>?_,λi o=>?_⟩,aG⟩
 ·rcases h.sub i af with h|h
  ·exact h
  ·omega
 ·rcases cq i o with fU|fU
  ·exact h.sub i fU
  ·exact .inr (fY h.aH.size fU)
theorem gW.put{w0 w:World}{dV:bf}{B pd:Nat}{d:a6.c3}{D:bf}{k:Nat}(h:gW w0 dV w B pd d D k)(hk:k<=90000000){i:Int}(o:0<=i/\i<(d.now.length:Int)){p:J}{c:Nat}{s:an}(π:a6.mY w D p (bj s))(ω:a6.kE s){N:Value->ao}{X:List PanicEntry->ao}
  (K:∀w' bb,gW w0 dV w' B pd (a6.da d i s) bb (k+1)->Kp w w' D->N (.int .i64 0) w'):
  aN w #[.int .i64 i,.slice p 64 c] Cs λδ aa=>κ prog 63 #[.pointer (some ⟨pd,0,none⟩),.slice (some ⟨δ,0,none⟩) 1 1] aa N X:=by
 rintro b γ rfl rfl;have ε:=μ.new (w:=w) [.int .i64 i,.slice p 64 c] Cs;have x:=η.alloc w (.cells [Value.int .i64 i,.slice p 64 c].toArray Cs);generalize w.heap.size=b at ε⊢;generalize w.alloc (.cells #[.int .i64 i,.slice p 64 c] Cs)=γ at ε x⊢;have h1:=h.ex x;refine κ.use (a6.I2 h1.dev h1.fa (fY h1.low h1.aH.size) (ws:=[⟨i,s,p,64,c⟩]) rfl (a6.mY.B3 h1.dev ε (by decide) (by decide) (by decide)) (λsw lR=>by simp only[lB]at lR;subst lR;exact⟨π.step (x.aH _) λi _ h=>h,ω.1,ω.2⟩) (by omega) (by have:=h1.fT;omega)) ?_
 have uy:a6.zp d ([(⟨i,s,p,64,c⟩:a6.hQ)].map a6.hQ.plain)=(a6.da d i s,0):=a6.arw h1.after h1.off o ω.1;rw[uy];rintro _ τ ⟨rfl,aQ⟩;obtain⟨bb,b4,oH⟩:=h1.Rb aQ rfl rfl im (k':=k+1) (by show(d.loose++[(i,s)]).length<=k+1;rw[fe];have:=h.fT;simp only[AA];omega);exact K τ bb b4 (Kp.trans (x.aH D) oH (λ_ _ h=>h) λ_ _ h=>h)
theorem gW.flush{w0 w:World}{dV:bf}{B pd:Nat}{d:a6.c3}{D:bf}{k:Nat}(h:gW w0 dV w B pd d D k){N:Value->ao}{X:List PanicEntry->ao}
  (K:∀w' bb,gW w0 dV w' B pd (kK d) bb 0->Kp w w' D->N (.int .i64 0) w'):
  κ prog 57 #[.pointer (some ⟨pd,0,none⟩)] w N X:=by
 refine κ.use (a6.ah4 h.dev h.fa) ?_;rw[a6.alH h.after h.off];rintro _ τ ⟨rfl,aQ⟩;obtain⟨bb,b4,oH⟩:=h.Rb aQ rfl rfl rfl (k':=0) (ew _);exact K τ bb b4 oH
theorem gW.ade{w0 w w':World}{dV:bf}{B pd:Nat}{d:a6.c3}{D:bf}{k:Nat}(h:gW w0 dV w B pd d D k)(aH:Kp w w' D){B':Nat}{ps:aU}{pgs:List an}(g:jy w B' ps pgs):jy w' B' ps pgs:=
 g.dA λε=>h.dA aH ε (by decide) (by decide) (by decide)
theorem X9(q:Int):0<=pJ q/\pJ q<=12:=by unfold pJ;omega
theorem Xz{w0 w:World}{dV:bf}{B pd:Nat}{d:a6.c3}{D:bf}{w9:Nat}(h:gW w0 dV w B pd d D w9)(Hb:w9<=1000000){R:bR}{qs:aU}(bV:h2 w R qs){s k q:Int}(aC:uI q)(bg:lG s k R):
  pq.C (some ⟨pd,0,none⟩) (bK R qs).toArray s k q w (χ λv w'=>v=.int .i64 0/\∃bb,gW w0 dV w' B pd (uR d s k q R) bb 0):=by
 have dr:=bV.len;have lO:∀bl∈ix s k q (eQ k R),a6.kE bl:=λbl h=>⟨Ur bl h,Us aC bg bV.ok dr bl h⟩;have hlen:=JQ s k q (eQ k R);have S2:fs (eQ k R).length<=11:=by have:=HL dr bg.1.2.1 k;unfold fs;omega
 have JK:=X9 q;apply pq.ok;unfold pq.main;rintro δ γ ej rfl;have ρ:=μ.new (w:=w) (bK R qs) bU;rw[<-ej,bV.dU]at ρ;have ζ:=η.alloc w (.cells (bK R qs).toArray bU);generalize w.alloc (.cells (bK R qs).toArray bU)=γ at ρ ζ⊢;rintro θ τ eu rfl;have ai:=μ.new (w:=γ) (two s k) b2;rw[<-eu]at ai;have σ:=η.alloc γ (.cells (two s k).toArray b2);rw[Gg];generalize γ.alloc (.cells (two s k).toArray b2)=τ at ai σ⊢;have e4:=ζ.trans σ;rw[cond_neg (by rfl)];refine⟨(bK R qs).toArray,by simp[bV.dU],(ρ.ex σ).cells,(two s k).toArray,rfl,ai.cells,?_⟩;refine κ.use (Xb (bV.ex e4) s k q) ?_;rintro _ aa ⟨ad,υ⟩;obtain⟨_,_,p,n,c,ps,rfl,Ao,ly⟩:=υ.resolve_right λh=>h.1 ⟨aC,bg⟩
 try dsimp only[bX,cC,cD,bk,bH,dY]
 rw[cond_neg (by rfl)];have aG:=h.ex (e4.trans ad);refine κ.use (Re (q:=q) (by have:=aC.1;have:=aC.2;omega) aa) ?_;rintro _ aE ⟨rfl,h3⟩;obtain rfl:=h3.symm
 try dsimp only[bH]
 rw[show q%2*12=pJ q from rfl];generalize lJ:ix s k q (eQ k R)=L at lO hlen ly;have ax:n=L.length:=by have h1:=Ao.1;have ι:=ly.len;omega
 have aok:uR d s k q R=kK (a6.da (kK (mu d (pJ q+1) L.tail)) (pJ q) (L.headD [])):=by unfold uR;rw[lJ]
 clear ρ ai;refine aW (by omega) ?_;have qN:1<=n:=by omega
 obtain⟨bp,rfl⟩:∃b,p=some ⟨b,0,none⟩:=by
  obtain⟨_,g1,⟨_,g2⟩|⟨b,_,_,g2,_⟩⟩:=Ao
  ·omega
  ·exact⟨b,g2⟩
 unfold pq.bd;refine⟨λt0 Cp Co F6 t11 PJ PI Wd t33 t34 W=>t0=some ⟨pd,0,none⟩/\some ⟨bp,0,none⟩=Cp/\n=Co/\c=F6/\pJ q=t11/\du (some ⟨bp,0,none⟩) c 1 1=PJ/\n-1=PI/\(((n-1:Nat):Nat):Int)=t33/\0<=t34/\t34<=(n-1:Nat)/\μ W τ.heap.size gI 1 (some ⟨bp,0,none⟩) n c ps/\jy W τ.heap.size ps L/\∃bb,gW w0 dV W B pd (mu d (pJ q+1) (L.tail.take t34.toNat)) bb (w9+t34.toNat),
  λ_ _ _ _ _ _ _ _ _ t34 _=>((n-1:Nat)-t34).toNat,⟨rfl,rfl,rfl,rfl,rfl,rfl,rfl,rfl,by omega,by omega,Ao,ly,D,aG⟩,?_⟩
 clear Ao ly aG;rintro _ _ _ _ _ _ _ Wd _ t34 W ⟨rfl,rfl,rfl,rfl,rfl,rfl,rfl,rfl,aD,h1,Ao,ly,bb,aJ⟩;unfold pq.δ;obtain⟨j,rfl⟩:=eH aD;rw[cy]at aJ;have BI:(mu d (pJ q+1) (L.tail.take j)).now.length=(mu d (pJ q+1) (L.tail.take j)).now.length:=rfl;have uu:=aJ.len;refine bz (λφ=>?_) λφ=>?_
 ·have φ:=b7 φ;have eP:j<L.tail.length:=by rw[E8];omega
  have mL:L[j+1]?=some L.tail[j]:=by rw[<-List.getElem?_eq_getElem eP,List.getElem?_tail]
  obtain⟨arO,arJ,alc,alU⟩:=ly.row (j+1) _ mL;refine aW (by omega) (aW (by omega) ?_);have BL:du (some (⟨bp,0,none⟩:Addr)) c 1 1=some ⟨bp,1,none⟩:=by unfold du;rw[aM (by have:=Ao.2.1;omega),ey,iT,dv]
  rw[BL]
  try dsimp only[bk]
  have M8:(⟨bp,1,none⟩:Addr).add (j*1)=⟨bp,j+1,none⟩:=by rw[<-dv bp 1,add_add,dv,ey,Nat.add_comm]
  rw[cy,M8];refine⟨arO,64,arJ,Ao.at alc,?_⟩;rw[bY (x:=pJ q+1) (by omega) (by omega),bY (x:=pJ q+1+(j:Int)) (by omega) (by omega)];refine aJ.put (by omega) (by omega) (a6.mY.B3 aJ.dev alU (by decide) (by decide) (by decide)) (lO _ (eZ mL)) λw' ahN nT aH=>?_
  try dsimp only[bH]
  rw[cond_neg (by rfl),bY (x:=(j:Int)+1) (by omega) (by omega)];have aO:((j:Int)+1).toNat=j+1:=by omega
  refine⟨⟨by trivial,by trivial,by trivial,by trivial,by trivial,by first|exact BL.symm|exact BL|trivial,by trivial,by trivial,by omega,by omega,aJ.dA aH Ao (by decide) (by decide) (by decide),aJ.ade aH ly,ahN,?_⟩,by((try dsimp only);omega)⟩;rw[aO];have qK:L.tail.take (j+1)=L.tail.take j++[L.tail[j]]:=k6 eP;rw[qK,Vr,gQ,qZ (by omega)];exact nT
 ·have φ:=dd φ;obtain rfl:j=n-1:=by omega
  have dR:L.tail.take (n-1)=L.tail:=hc (by rw[E8];omega);rw[dR]at aJ;unfold pq.a1;refine aJ.flush λc6 QC TV abM=>?_
  try dsimp only[bk,bH]
  rw[cond_neg (by rfl)];have aqq:=aJ.dA abM Ao (by decide) (by decide) (by decide);have g10:=aJ.ade abM ly;refine aW (by omega) ?_;obtain⟨Xp,awu,SK⟩:∃a l,L=a::l:=by cases π:L with|nil=>rw[π]at hlen;simp at hlen;omega|cons a l=>exact⟨a,l,rfl⟩
  have Z2:L[0]?=some Xp:=by rw[SK];rfl
  obtain⟨dP,fz,hl,g0⟩:=g10.row 0 Xp Z2;refine⟨dP,64,fz,aqq.at (j:=0) hl,?_⟩;refine TV.put (by omega) (by have:=TV.len;omega) (a6.mY.B3 TV.dev g0 (by decide) (by decide) (by decide)) (lO _ (eZ Z2)) λcn awm aoG axI=>?_
  try dsimp only[bH]
  rw[cond_neg (by rfl)];refine aoG.flush λeA QD abt axJ=>?_
  try dsimp only[bH]
  refine χ.mk ⟨rfl,QD,?_⟩;rw[aok,SK];rw[SK]at abt;exact abt
open eh
def j2(n:Nat):Nat:=(n+5)/6
def ma(n j:Nat):Nat:=min 6 (n-6*j)
def sJ(l:List fx)(j:Nat):List fx:=(l.drop (6*j)).take 6
def FG(d:a6.c3)(q:Int)(u:Nat)(l:List fx)(xs:List Nat):a6.c3:=
 xs.zipIdx.foldl (λd x=>a6.da d ((24+(u+x.2):Nat):Int) (kz (qf q ((u+x.2:Nat):Int) (sJ l x.1)))) d
theorem aen(d:a6.c3)(q:Int)(u:Nat)(l:List fx)(xs:List Nat)(x:Nat):FG d q u l (xs++[x])=a6.da (FG d q u l xs) ((24+(u+xs.length):Nat):Int) (kz (qf q ((u+xs.length:Nat):Int) (sJ l x))):=by unfold FG;rw[List.zipIdx_append,List.foldl_append];simp
def Ck(d:a6.c3)(q:Int)(u:Nat)(l:List fx):a6.c3:=FG d q u l (List.range (j2 l.length))
theorem Rq{n j:Nat}(h:j<j2 n):0<ma n j/\6*j+ma n j<=n/\ma n j<=6:=by unfold j2 at h;unfold ma;omega
theorem apE{n j:Nat}(h:6*j<n):j<j2 n:=by unfold j2;omega
theorem aq0{n j:Nat}(h:n<=6*j):j2 n<=j:=by unfold j2;omega
theorem Ro(l:List fx)(j:Nat):(sJ l j).length=ma l.length j:=by unfold sJ ma;rw[gQ,ky]
theorem Ji{l:List fx}{j:Nat}{d:fx}(h:d∈sJ l j):d∈l:=HY (vW h)
def R3(p:J)(n j:Nat):Value:=.slice (du p (6*j+ma n j) (6*j) 5) (ma n j) (ma n j)
theorem apT(m:Nat):min2 6 (m:Int)=((min 6 m:Nat):Int):=by unfold min2;split<;>omega
theorem ahF{w:World}{nG gD dP dQ:Nat}{p:J}{n c:Nat}(KC:μ w nG IC 1 (some ⟨dP,0,none⟩) 1 1 [.slice p n c])(ρ:μ w gD cj 1 (some ⟨dQ,0,none⟩) 1 1 [.int .i64 6])(ax:n<=100000)(jS:n<=c):
  SeqStopsK Fence.wide 0 prog 184 #[.pointer (some ⟨dP,0,none⟩),.pointer (some ⟨dQ,0,none⟩)] (λx:_root_.Fin (j2 n)=>#[R3 p n x.val]) (vd dP dQ) (λxs=>xs.map (·.val)=List.range (j2 n)) (λ_=>True) (j2 n) w:=by
 intro l CE QK W ψ JF SJ ah aD;have x:=Kp.acP ψ;have Au:=KC.aH x (λa aQ=>by cases aQ;have:=(KC.ge rfl).2;dsimp only at this⊢;omega);have ab:=ρ.aH x (λa aQ=>by cases aQ;have:=(ρ.ge rfl).2;dsimp only at this⊢;omega);show sD.C l dP dQ W _;apply sD.ok;unfold sD.main sD.bd;refine⟨λt0 t1 t2 t4 w'=>l=t0/\dP=t1/\dQ=t2/\Gr dP dQ (.slice p n c) (.int .i64 6) w'/\∃xs:List (_root_.Fin (j2 n)),t4=((6*xs.length:Nat):Int)/\xs.map (·.val)=List.range xs.length/\CE xs w',λt0 t1 t2 t4 w'=>(n+6-t4).toNat,⟨rfl,rfl,rfl,⟨Au.at (by rfl),ab.at (by rfl)⟩,[],rfl,rfl,aD⟩,?_⟩;rintro _ _ _ t4 w' ⟨rfl,rfl,rfl,⟨fz,c1⟩,xs,rfl,hV,φ⟩;have hlen:xs.length<=j2 n:=by
  have h1:=rW (List.range xs.length) (List.range (j2 n)) O5 λi o=>by rw[<-hV]at o;obtain⟨y,_,rfl⟩:=gO.1 o;exact ns.2 y.isLt
  simpa using h1
 unfold sD.δ;refine⟨p,n,c,fz,?_⟩;refine bz (λh=>?_) λh=>?_
 ·have bM:=b7 h;have zT:xs.length<j2 n:=apE (by omega);have DW:=Rq zT;have G5:ma n xs.length=min 6 (n-6*xs.length):=rfl;refine⟨6,c1,p,n,c,fz,bL (bB (by omega)) (bL (bB (by omega)) ⟨p,n,c,fz,?_⟩)⟩;rw[cy,apT,<-G5];have zM:IntKind.i64.wrap (((6*xs.length:Nat):Int)+(ma n xs.length:Int))=((6*xs.length+ma n xs.length:Nat):Int):=by
   rw[bY (by omega) (by omega)];rfl
  rw[zM,cy];refine bL (bB (by omega)) (bL (bB (by omega)) (bL (bB (by omega)) (bL (bB (by omega)) (bL (bB (by omega)) (bL (bB (by omega)) ?_)))));have bE:6*xs.length+ma n xs.length-6*xs.length=ma n xs.length:=by omega
  rw[bE];have eP:CE xs w'.drew:=JF _ _ _ none φ (Z1 w') (λr e=>by cases e);obtain⟨fn,tmps,assign,body,h6,yz⟩:=ah xs ⟨xs.length,zT⟩ w'.drew eP zT;refine⟨fn,tmps,assign,body,h6,yz.mono λe γ he=>?_⟩;rcases he with⟨rfl,w2,hk⟩|⟨rfl,w2⟩
  ·refine⟨_,rfl,?_⟩
   try dsimp only[dE]
   have nO:=hk _ _ ⟨fz,c1⟩;refine⟨6,nO.2,?_⟩;rw[bY (by omega) (by omega)];refine⟨⟨rfl,rfl,rfl,nO,xs++[⟨xs.length,zT⟩],?_,?_,w2⟩,by((try dsimp only);omega)⟩
   ·rw[fe,AA];omega
   ·rw[q0,hV,fe,AA,uP];rfl
  ·refine⟨_,rfl,?_⟩
   try dsimp only[dE]
   exact⟨⟨_,rfl⟩,.inr ⟨_,trivial,w2⟩⟩
 ·have h:=dd h;have ι:=aq0 (n:=n) (j:=xs.length) (by omega)
  have:xs.length=j2 n:=by omega
  refine⟨⟨_,rfl⟩,.inl ⟨xs,?_,φ⟩⟩;show xs.map (·.val)=List.range (j2 n);rw[hV,this]
theorem a7.asQ{w:World}{a:J}{vs:aU}(π:a7 w a vs)(m l h s:Nat)(hm:vs.length<=m*s):a7 w (du a m l s) ((vs.drop (l*s)).take h):=by
 unfold du;by_cases e:m=l
 ·rw[aS e]
  have:vs.drop (l*s)=[]:=qY (by rw[<-e];exact hm)
  rw[this];cases a with
  |none=>simp[a7]
  |some a=>exactλj v aJ=>by simp at aJ
 ·rw[aM e];refine a7.take ?_ h;cases a with
  |none=>have:vs=[]:=π;subst this;simp[a7]
  |some a=>exact aw.drop π _
theorem ajW{w:World}{p:J}{l:List fx}(π:a7 w p (jC l)){j:Nat}(φ:j<j2 l.length):a7 w (du p (6*j+ma l.length j) (6*j) 5) (jC (sJ l j)):=by
 have h:=Rq φ;have aj:=M5 l;have h1:=a7.asQ (π.take ((6*j+ma l.length j)*5)) (6*j+ma l.length j) (6*j) (ma l.length j*5) 5 (by rw[gQ];omega);have e:((((jC l).take ((6*j+ma l.length j)*5)).drop (6*j*5)).take (ma l.length j*5))=jC (sJ l j):=by
  have af:jC l=jC (l.take (6*j))++(jC (sJ l j)++jC ((l.drop (6*j)).drop 6)):=by rw[<-Jn,<-Jn];unfold sJ;rw[yT,yT]
  have bd:(jC (l.take (6*j))).length=6*j*5:=by rw[M5,gQ];omega
  have fG:(jC (sJ l j)).length=ma l.length j*5:=by rw[M5,Ro]
  rw[E6,af,<-bd,K8,AF,bd,<-fG,oT (by rw[fG];omega),hc (by rw[fG];omega)]
 rw[e]at h1;exact h1
structure Mq(w0:World)(dV:bf)(eT B pd:Nat)(d:a6.c3)(δ θ aF ae c8:Nat)(q u:Int)(k:Nat)(CC:Nat)(p:J)(n c:Nat)(l:List fx)(W:World):Prop where
 dev:∃bb,gW w0 dV W B pd d bb k
 size:eT<=W.heap.size
 ρ:μ W eT P4 1 (some ⟨δ,0,none⟩) 1 1 [.pointer (some ⟨pd,0,none⟩)]
 ai:μ W eT cj 1 (some ⟨θ,0,none⟩) 1 1 [.int .i64 q]
 bo:μ W eT cj 1 (some ⟨aF,0,none⟩) 1 1 [.int .i64 u]
 cx:μ W eT cj 1 (some ⟨ae,0,none⟩) 1 1 [.int .i64 0]
 cu:μ W eT Cr 1 (some ⟨c8,0,none⟩) 1 1 [.int .i64 0]
 ol:μ W CC fk 5 p n c (jC l)
theorem gW.grown{w0 W b6:World}{dV:bf}{B pd k C:Nat}{d:a6.c3}{D:bf}(h:gW w0 dV W B pd d D k)(aH:Kp W b6 (vf W C))(hC:w0.heap.size<=C):gW w0 dV b6 B pd d D k:=
 ⟨gV.grown h.dev aH,h.fa,h.off,h.after,h.len,h.fT,h.low,h.aH.later aH hC,h.sub⟩
theorem Mq.grown{w0:World}{dV:bf}{eT B pd:Nat}{d:a6.c3}{δ θ aF ae c8:Nat}{q u:Int}{k CC:Nat}{p:J}{n c:Nat}{l:List fx}{W b6:World}{C:Nat}(h:Mq w0 dV eT B pd d δ θ aF ae c8 q u k CC p n c l W)(aH:Kp W b6 (vf W C))(hC:w0.heap.size<=C):Mq w0 dV eT B pd d δ θ aF ae c8 q u k CC p n c l b6:=by obtain⟨⟨bb,aD⟩,aj,h1,ι,aG,cq,db,hy⟩:=h;exact⟨⟨bb,aD.grown aH hC⟩,fY aj aH.size,h1.grown aH,ι.grown aH,aG.grown aH,cq.grown aH,db.grown aH,hy.grown aH⟩
theorem aiF{w0 w:World}{dV:bf}{B pd:Nat}{d:a6.c3}{D:bf}{w9:Nat}(h:gW w0 dV w B pd d D w9)(Hb:w9<=1000000){seq:Int}(ω:1<=seq/\seq<=1073741824){u:Nat}{CC:Nat}{p:J}{n c:Nat}{l:List fx}(ol:μ w CC fk 5 p n c (jC l))(aj:l.length=n)(ax:n<=(16-u)*6)(hu:u<=16)(hw:∀d∈l,d.wf)(bg:∀d∈l,hS d=0):
  pt.C (some ⟨pd,0,none⟩) seq u p n c w (χ λv w'=>v=.tuple #[.int .i64 ((u+j2 n:Nat):Int),.int .i64 0]/\∃bb,gW w0 dV w' B pd (Ck d seq u l) bb (w9+16)):=by
 apply pt.ok;unfold pt.main;rintro δ γ ej rfl;have ρ:=μ.new (w:=w) [.pointer (some ⟨pd,0,none⟩)] P4;rw[<-ej]at ρ;have ζ:=η.alloc w (.cells [Value.pointer (some ⟨pd,0,none⟩)].toArray P4);have bd:=(ρ.ge rfl).2;generalize w.alloc (.cells #[.pointer (some ⟨pd,0,none⟩)] P4)=γ at ρ ζ bd⊢;rintro θ τ eu rfl;have ai:=μ.new (w:=γ) [.int .i64 seq] cj;rw[<-eu]at ai;have σ:=η.alloc γ (.cells [Value.int .i64 seq].toArray cj);have fG:=(ai.ge rfl).2;generalize γ.alloc (.cells #[.int .i64 seq] cj)=τ at ai σ fG⊢;rintro aF aa jd rfl;have bo:=μ.new (w:=τ) [.int .i64 (u:Int)] cj;rw[<-jd]at bo;have ad:=η.alloc τ (.cells [Value.int .i64 (u:Int)].toArray cj);have xc:=(bo.ge rfl).2;generalize τ.alloc (.cells #[.int .i64 (u:Int)] cj)=aa at bo ad xc⊢;rintro ae az mg rfl;have cx:=μ.new (w:=aa) [.int .i64 0] cj;rw[<-mg]at cx;have aA:=η.alloc aa (.cells [Value.int .i64 0].toArray cj);have xd:=(cx.ge rfl).2;generalize aa.alloc (.cells #[.int .i64 0] cj)=az at cx aA xd⊢;rintro c8 aE lv rfl;have cu:=μ.new (w:=az) [.int .i64 0] Cr;rw[<-lv]at cu;have ak:=η.alloc az (.cells [Value.int .i64 0].toArray Cr);generalize az.alloc (.cells #[.int .i64 0] Cr)=aE at cu ak⊢;dsimp only at bd fG xc xd;have ρ:=(ρ.ex (σ.trans (ad.trans (aA.trans ak)))).lower (show w.heap.size<=δ by omega);have ai:=(ai.ex (ad.trans (aA.trans ak))).lower (show w.heap.size<=θ by omega);have bo:=(bo.ex (aA.trans ak)).lower (show w.heap.size<=aF by omega);have cx:=(cx.ex ak).lower (show w.heap.size<=ae by omega);have cu:=cu.lower (show w.heap.size<=c8 by omega);have Ei:=ζ.trans (σ.trans (ad.trans (aA.trans ak)));clear ζ σ ad aA ak;refine⟨some ⟨pd,0,none⟩,ρ.at (by rfl),?_⟩;rw[cond_neg (by rfl)];refine⟨seq,ai.at (by rfl),?_⟩;rw[iD (by omega)];refine⟨seq,ai.at (by rfl),?_⟩;rw[iD (by omega)];refine⟨u,bo.at (by rfl),?_⟩;rw[iD (by omega)];refine⟨u,bo.at (by rfl),?_⟩;rw[iD (by omega)];unfold pt.bd;refine⟨λcR cM de t4 t5 t6 t8 t9 LF LD PK t35 t36 w'=>p=cR/\n=cM/\c=de/\δ=t4/\θ=t5/\aF=t6/\ae=t8/\c8=t9/\p=LF/\n=LD/\c=PK/\t35=(n:Int)/\0<=t36/\t36<=n/\η aE w',
  λcR cM de t4 t5 t6 t8 t9 LF LD PK t35 t36 w'=>(n-t36).toNat,⟨rfl,rfl,rfl,rfl,rfl,rfl,rfl,rfl,rfl,rfl,rfl,rfl,by omega,by omega,η.refl _⟩,?_⟩
 rintro _ _ _ _ _ _ _ _ _ _ _ _ t36 w' ⟨rfl,rfl,rfl,rfl,rfl,rfl,rfl,rfl,rfl,rfl,rfl,rfl,aD,h1,I⟩;unfold pt.δ;refine bz (λφ=>?_) λφ=>?_
 ·have φ:=b7 φ;obtain⟨j,rfl⟩:=eH aD;obtain⟨e,he,hm,_⟩:=a6.ow (show j<l.length by omega);refine bL (bB aD) (bL (bB φ) ?_);obtain⟨a,rfl,mj⟩:=Zi ((ol.cells.ex Ei).ex I) he
  try dsimp only[bk]
  refine⟨e.cells.toArray,rfl,mj,?_⟩;rintro fq ba rfl rfl;have bS:=μ.new (w:=w') l4 fk;have aI:=η.alloc w' (.cells l4.toArray fk);unfold l4 at bS aI;generalize w'.alloc (.cells #[.int .i64 0,.int .i64 0,.int .i64 0,.int .i64 0,.complex .f64 0 0] fk)=ba at bS aI⊢;refine bL (by rfl) ?_;refine bS.put (by rfl) cells_one λbm hA er=>?_;have aV:η w' bm:=aI.then hA λi o=>o▸ew _;refine⟨e.cells.toArray,rfl,er.cells,?_⟩;refine κ.use (eh.A1 (hw e hm) _) ?_;rintro _ b5 ⟨rfl,cg⟩
  try dsimp only[bH]
  rw[bg e hm,cond_neg (by rfl)];have iI:IntKind.i64.wrap ((j:Int)+1)=((j+1:Nat):Int):=by rw[bY (by omega) (by omega)];rfl
  rw[iI];exact⟨⟨rfl,rfl,rfl,rfl,rfl,rfl,rfl,rfl,rfl,rfl,rfl,rfl,by omega,by omega,I.trans (aV.trans cg)⟩,by((try dsimp only);omega)⟩
 ·unfold pt.a1;have ρ:=ρ.ex I;have ai:=ai.ex I;have bo:=bo.ex I;have cx:=cx.ex I;have cu:=cu.ex I;have I:=Ei.trans I;clear Ei;refine⟨u,bo.at (by rfl),?_⟩;rw[bY (x:=16-(u:Int)) (by omega) (by omega),bY (by omega) (by omega),iD (by omega)];refine κ.use (eh.Qy p n c w') ?_;rintro _ fw ⟨dP,dQ,rfl,nB,Au,ab⟩;refine bL (by rfl) ?_;have TZ:=I.trans nB;have rH:=h.ex TZ;have ρ:=ρ.ex nB;have ai:=ai.ex nB;have axU:aF<w'.heap.size:=(bo.ge rfl).2;have axV:ae<w'.heap.size:=(cx.ge rfl).2;have bo:=bo.ex nB;have cx:=cx.ex nB;have cu:=cu.ex nB;have aqA:=ol.ex TZ;have Ka:w'.heap.size<=dP:=(Au.ge rfl).1;have abd:w'.heap.size<=dQ:=(ab.ge rfl).1;have TJ:j2 n<=16-u:=by unfold j2;omega
  have ft:w0.heap.size<=fw.heap.size:=rH.aH.size;have axC:w0.heap.size<=w.heap.size:=h.aH.size;refine⟨_root_.Fin (j2 n),λx=>R3 p n x.val,vd dP dQ,λxs=>xs.map (·.val)=List.range (j2 n),λ_=>True,j2 n,
   λxs W=>Mq w0 dV w.heap.size B pd (FG d seq u l (xs.map (·.val))) δ θ aF ae c8 seq ((u+xs.length:Nat):Int) (w9+xs.length) CC p n c l W/\μ W 0 IC 1 (some ⟨dP,0,none⟩) 1 1 [.slice p n c]/\μ W 0 cj 1 (some ⟨dQ,0,none⟩) 1 1 [.int .i64 6],λ_ _=>False,?_,?_,?_,?_⟩
  ·refine⟨ahF Au ab (by omega) ol.2.1,λh k=>h.trans k,λW l ε hD _ aB π _=>vd.book W l ε hD aB π,?_,λ_ _ _ _ h=>h.elim,⟨⟨⟨D,rH⟩,TZ.size,ρ,ai,bo,cx,cu,aqA⟩,Au.lower (en _),ab.lower (en _)⟩⟩;intro xs W b6 row iJ Tk υ;have k:=Kp.grown Tk υ;exact⟨iJ.1.grown k ft,iJ.2.1.grown k,iJ.2.2.grown k⟩
  ·intro pre x gi iJ aob;obtain⟨⟨⟨eU,Z5⟩,pb,ρ,ai,bo,cx,cu,acU⟩,n3,cG⟩:=iJ;have Kk:=x.isLt;have DW:=Rq Kk;have uy:pre.length<16-u:=by omega
   have fV:=Ro l x.val;rw[aj]at fV;unfold R3
   try dsimp only[dY]
   refine⟨seq,ai.at (by rfl),((u+pre.length:Nat):Int),bo.at (by rfl),?_⟩;have lO:a6.kE (kz (qf seq ((u+pre.length:Nat):Int) (sJ l x.val))):=⟨xE (by rw[Pt,fV];omega),Ik (Ps (λd af=>hw d (Ji af)) λd af=>bg d (Ji af))⟩;have rI:a7 gi (du p (6*x.val+ma n x.val) (6*x.val) 5) (jC (sJ l x.val)):=by
    have:=ajW acU.cells (j:=x.val) (by rw[aj];exact Kk)
    rw[aj]at this;exact this
   refine κ.use (eh.ad3 seq _ _ _ _ (sJ l x.val) gi ⟨by omega,by omega⟩ rI fV DW.2.2 (λd af=>hw d (Ji af)) λd af=>bg d (Ji af)) ?_;rintro _ kR ⟨q,e,rfl,s7,Cx⟩
   try dsimp only[bX,cC,cD,bk,bH,dY]
   rw[cond_pos (by rfl)];refine⟨some ⟨pd,0,none⟩,(ρ.ex Cx).at (by rfl),((u+pre.length:Nat):Int),(bo.ex Cx).at (by rfl),?_⟩;have vt:IntKind.i64.wrap (24+((u+pre.length:Nat):Int))=((24+(u+pre.length):Nat):Int):=by rw[bY (by omega) (by omega)];omega
   rw[vt];have Nt:=Z5.ex Cx;have uu:=Nt.len;refine Nt.put (by omega) (i:=((24+(u+pre.length):Nat):Int)) ⟨by omega,by omega⟩ (a6.mY.B3 Nt.dev s7 (by decide) (by decide) (by decide)) lO λiz gj ur Ae=>?_
   try dsimp only[bH]
   rw[cond_neg (by rfl)];have off:∀{e:TypeId}{sz:Nat}{p:J}{n c B':Nat}{xs:aU},μ gi B' e sz p n c xs->e≠P1->e≠P2->e≠P3->μ iz B' e sz p n c xs:=
    λε g1 g2 g3=>Nt.dA Ae (ε.ex Cx) g1 g2 g3
   have rZ:=off ρ (by decide) (by decide) (by decide);have qS:=off ai (by decide) (by decide) (by decide);have s6:=off bo (by decide) (by decide) (by decide);have EG:=off cx (by decide) (by decide) (by decide);have OB:=off cu (by decide) (by decide) (by decide);have aqz:=off acU (by decide) (by decide) (by decide);refine⟨_,s6.at (by rfl),?_⟩;have alf:IntKind.i64.wrap (((u+pre.length:Nat):Int)+1)=((u+(pre.length+1):Nat):Int):=by rw[bY (by omega) (by omega)];omega
   rw[alf];refine s6.da (H8 0) (by rfl) λo2 BU An=>?_;have oH:Kp gi o2 λi=>eU i\/i=aF:=Kp.trans ((Cx.aH eU).fZ Ae) BU (λi _ h=>.inl h) λi _ h=>.inr h;have t3:=(s6.typed rfl).1;have SD:gW w0 dV o2 B pd (a6.da (FG d seq u l (pre.map (·.val))) ((24+(u+pre.length):Nat):Int) (kz (qf seq ((u+pre.length:Nat):Int) (sJ l x.val)))) gj (w9+pre.length+1):=by
    refine⟨ur.dev.aH BU λi o e=>?_,ur.fa,ur.off,ur.after,ur.len,ur.fT,ur.low,Kp.trans ur.aH BU (λ_ _ h=>h) λi o e=>?_,ur.sub⟩
    ·subst e;rcases(ur.dev.typed o).1 with mx|mx|mx
     ·exact t3.ne mx (by decide) rfl
     ·exact t3.ne mx (by decide) rfl
     ·exact t3.ne mx (by decide) rfl
    ·have:=(bo.ge rfl).1
     dsimp only at this;omega
   have arR:=off n3 (by decide) (by decide) (by decide);have arS:=off cG (by decide) (by decide) (by decide);have dB:∀{b B':Nat}{e:TypeId}{sz n c:Nat}{xs:aU},μ iz B' e sz (some ⟨b,0,none⟩) n c xs->b≠aF->μ o2 B' e sz (some ⟨b,0,none⟩) n c xs:=λε ca=>ε.aH BU λx I=>by cases I;exact ca
   have d1:δ≠aF:=λe=>by subst e;exact(rZ.typed rfl).1.ne t3 (by decide) rfl
   have d0:dP≠aF:=by omega
   have adF:=dB arR d0;have adG:=dB arS (by omega);refine⟨KeepsOthers.acQ oH ?_,?_,⟨⟨gj,?_⟩,fY pb oH.size,dB rZ d1,dB qS (by omega),?_,dB EG (by omega),OB.cB BU cj (λi o=>o▸t3) (by decide),aqz.cB BU cj (λi o=>o▸t3) (by decide)⟩,adF,adG⟩
   ·rintro i _ (o|rfl)
    ·rcases(Z5.dev.typed o).1 with t|t|t<;>exact⟨_,t⟩
    ·exact⟨_,(bo.typed rfl).1⟩
   ·intro v0 v1 π;have hl:=π.1.symm.trans (n3.at (j:=0) (by rfl));have aO:=π.2.symm.trans (cG.at (j:=0) (by rfl));cases hl;cases aO;exact⟨adF.at (by rfl),adG.at (by rfl)⟩
   ·have aO:(pre++[x]).map (·.val)=pre.map (·.val)++[x.val]:=by simp
    rw[aO,aen,jV,fe];exact SD
   ·rw[fe];exact An
  ·intro vc xs h0 al9 hV iJ DX;have hV:xs.map (·.val)=List.range (j2 n):=hV;obtain⟨⟨⟨eU,g1⟩,pb,axW,aX,jG,iM,eY,pl⟩,_,_⟩:=iJ;have oD:xs.length=j2 n:=by have:=gP List.length hV;simpa using this
   rw[oD]at jG g1;refine⟨_,jG.at (by rfl),?_⟩;refine iM.da (H8 0) (by rfl) λIH Uf EH=>?_;have ada:=eY.aH Uf (λx I=>by cases I;dsimp only;intro e;subst e;exact(eY.typed rfl).1.ne (iM.typed rfl).1 (by decide) rfl);refine ada.da (H8 0) (by rfl) λtH Ug EI=>?_;have acF:=EH.aH Ug (λx I=>by cases I;dsimp only;intro e;subst e;exact(eY.typed rfl).1.ne (iM.typed rfl).1 (by decide) rfl);have ca:∀{b B':Nat}{e:TypeId}{W:World}{xs:aU}{sz n c:Nat},μ W B' e sz (some ⟨b,0,none⟩) n c xs->W.heap[vc]?=some (.deferred (some []))->vc≠b:=λε af e=>by obtain⟨cur,fr,aP⟩:=(ε.typed rfl).1;dsimp only at aP;rw[<-e,af]at aP;cases aP
   have S5:IH.heap[vc]?=some (.deferred (some [])):=by rw[Uf.block vc (Array.getElem?_eq_some_iff.1 DX).1 (ca iM DX)];exact DX
   have S6:tH.heap[vc]?=some (.deferred (some [])):=by rw[Ug.block vc (Array.getElem?_eq_some_iff.1 S5).1 (ca ada S5)];exact S5
   refine⟨S6,?_⟩;have Uh:=Kp.putObj tH vc (.deferred none);have aqn:=acF.aH Uh (λx I=>by cases I;exactλe=>ca acF S6 e.symm);have aqo:=EI.aH Uh (λx I=>by cases I;exactλe=>ca EI S6 e.symm);refine⟨_,aqn.at (by rfl),_,aqo.at (by rfl),?_⟩;have awW:w.heap.size<=ae:=(iM.ge rfl).1;have awX:w.heap.size<=c8:=(eY.ge rfl).1;have b4:fw.heap.size<=vc:=al9;have cd:Kp h0 (tH.putObj vc (.deferred none)) λi=>i=ae\/i=c8\/i=vc:=Kp.trans (Kp.trans Uf Ug (λi _ h=>.inl h) λi _ h=>.inr h) Uh (λi _ h=>by rcases h with h|h;exact .inl h;exact .inr (.inl h)) (λi _ h=>.inr (.inr h)) (T:=λi=>i=vc) (S:=λi=>i=ae\/i=c8);refine χ.mk ⟨rfl,eU,?_⟩;unfold Ck;rw[aj,<-hV];refine⟨g1.dev.aH cd λi o ω=>?_,g1.fa,g1.off,g1.after,g1.len,by have:=g1.fT;omega,g1.low,Kp.trans g1.aH cd (λi _ h=>h) λi o ω=>absurd ω (by omega),g1.sub⟩;have aP:=(g1.dev.typed o).1;rcases ω with rfl|rfl|rfl
   ·have t:=(iM.typed rfl).1;rcases aP with mx|mx|mx
    ·exact t.ne mx (by decide) rfl
    ·exact t.ne mx (by decide) rfl
    ·exact t.ne mx (by decide) rfl
   ·have t:=(eY.typed rfl).1;rcases aP with mx|mx|mx
    ·exact t.ne mx (by decide) rfl
    ·exact t.ne mx (by decide) rfl
    ·exact t.ne mx (by decide) rfl
   ·have:vf h0 0 i:=⟨en _,_,DX,rfl⟩
    rcases aP with t|t|t<;>exact this.typed t
  ·intro vc pre hP _ _ iJ _;exact iJ.elim
end Go.Proofs.YtcpdfhkhaekekaaGreat.G.c5
namespace Go.Proofs.YtcpdfhkhaekekaaGreat.G.b9
open Go.bO Go.RowKit
theorem aju{w:World}{e:TypeId}{sz:Nat}{p:J}{n c m bytes:Nat}{zero:ag}{Src:aU->Prop}{N:J->Nat->ao}
  (h:gK w p n c m Src e sz bytes zero λbT aT w'=>(bT=p\/∀x,bT=some x->w.heap.size<=x.block)->N bT aT w'):gK w p n c m Src e sz bytes zero N:=by
 obtain⟨ys,h1,ι,aG,cq⟩:=h;refine⟨ys,h1,ι,λυ=>⟨(aG υ).1,λw' hw=>(aG υ).2 w' hw (.inl rfl)⟩,λbJ=>?_⟩;obtain⟨a1,bP,EM,cd,cz,dN⟩:=cq bJ;exact⟨a1,bP,EM,cd,cz,λb aT w' ψ π hw=>dN b aT w' ψ π hw (.inr λx I=>by cases I;exact HU ψ.symm)⟩
structure cP where
 k:Int
 v:Int
 b:Int
 s:Int
 bs:an
 p:J
 n:Nat
 c:Nat
def cP.cells(r:cP):aU:=[.int .i64 r.k,.int .i64 r.v,.int .i64 r.b,.int .i64 r.s,.slice r.p r.n r.c]
abbrev bytesOf(r:cP):aU:=r.bs.map (Value.int .u8)
structure Small(r:cP):Prop where
 len:r.bs.length=r.n
 fT:r.n<=140737488351232
 wf:∀x∈r.bs,0<=x/\x<256
structure QT(w:World)(r:cP):Prop where
 cells:a7 w r.p (bytesOf r)
 small:Small r
def fa(k:Int):Prop:=1<=k/\k<=9
def lF:aU:=[.int .i64 0,.int .i64 0,.int .i64 0,.int .i64 0,.slice none 0 0]
theorem GS{a b c d:Int}{p:J}{n m:Nat}:∀y∈[Value.int .i64 a,.int .i64 b,.int .i64 c,.int .i64 d,.slice p n m],y.oneCell'=true:=by intro y ah;simp only[fA,n1,oS]at ah;rcases ah with rfl|rfl|rfl|rfl|rfl<;>rfl
theorem asH{a b c d f:Int}{p:J}{n m:Nat}:∀y∈[Value.int .i64 a,.int .i64 b,.int .i64 c,.int .i64 d,.slice p n m,.int .i64 f],y.oneCell'=true:=by intro y ah;simp only[fA,n1,oS]at ah;rcases ah with rfl|rfl|rfl|rfl|rfl|rfl<;>rfl
theorem MP(r:cP)(w:World)(h:QT w r):
  DK.C r.k r.v r.b r.s r.p r.n r.c w (χ λv w'=>∃bT aT,v=.agg (cP.cells {r with p:=bT,c:=aT}).toArray/\η w w'/\μ w' w.heap.size 5 1 bT r.n aT (bytesOf r)):=by
 apply DK.ok;unfold DK.main;rintro δ γ rfl rfl θ τ rfl rfl;have ρ:=μ.new (w:=w) (cP.cells r) ff;have ζ:=η.alloc w (.cells (cP.cells r).toArray ff);unfold cP.cells at ρ ζ;generalize w.alloc (.cells #[.int .i64 r.k,.int .i64 r.v,.int .i64 r.b,.int .i64 r.s,.slice r.p r.n r.c] ff)=γ at ρ ζ⊢;have ai:=μ.new (w:=γ) lF ff;have σ:=η.alloc γ (.cells lF.toArray ff);unfold lF at ai σ;generalize γ.alloc (.cells #[.int .i64 0,.int .i64 0,.int .i64 0,.int .i64 0,.slice none 0 0] ff)=τ at ai σ⊢;have c7:=ζ.trans σ;have Al:=ρ.ex σ;refine⟨_,_,_,Al.at (j:=4) rfl,?_⟩;refine κ.use (a6.IU r.p r.n r.c (bytesOf r) τ (h.cells.ex c7) (by simpa using h.small.len) h.small.fT (IF _ _)) ?_;rintro _ aa ⟨bT,aT,rfl,ad,bo⟩
 try dsimp only[dY]
 have s1:w.heap.size<γ.heap.size:=(ρ.typed rfl).2.2;refine(Al.ex ad).da (j:=4) (by show 4<1*5;omega) rfl λaE dN cu=>?_;refine⟨#[.int .i64 r.k,.int .i64 r.v,.int .i64 r.b,.int .i64 r.s,.slice bT r.n aT],rfl,cu.cells,aW rfl ?_⟩
 try dsimp only[ie]
 refine((ai.ex ad).aH dN λx e o=>by cases e;dsimp only at o;omega).put (by rfl) GS λba ec bS=>?_;refine⟨_,rfl,bS.cells,χ.mk ⟨bT,aT,rfl,?_,?_⟩⟩
 ·refine((c7.trans ad).then dN λi o=>?_).then ec λi o=>?_
  ·rw[o];exact ew _
  ·rw[o];exact ζ.size
 ·have aF:τ.heap.size<=τ.heap.size:=ew _;have s2:γ.heap.size<τ.heap.size:=(ai.typed rfl).2.2;refine((bo.aH dN λx e o=>?_).aH ec λx e o=>?_).lower (fY ζ.size σ.size)
  ·have:=(bo.ge e).1
   omega
  ·have:=(bo.ge e).1
   omega
theorem A1(r:cP)(w:World):DF.C r.k r.v r.b r.s r.p r.n r.c w (χ λv w'=>(fa r.k/\v=.int .i64 0\/¬fa r.k/\v=.int .i64 1)/\η w w'):=by
 apply DF.ok;unfold DF.main;rintro δ γ rfl rfl;have ρ:=μ.new (w:=w) (cP.cells r) ff;have ζ:=η.alloc w (.cells (cP.cells r).toArray ff);unfold cP.cells at ρ ζ;generalize w.alloc (.cells #[.int .i64 r.k,.int .i64 r.v,.int .i64 r.b,.int .i64 r.s,.slice r.p r.n r.c] ff)=γ at ρ ζ⊢;unfold fa;refine⟨_,ρ.at (j:=0) rfl,bz (λh=>?_) λh=>?_⟩
 ·have:=b7 h
  exact χ.mk ⟨.inr ⟨by omega,rfl⟩,ζ⟩
 have h1:=dd h;refine⟨_,ρ.at (j:=0) rfl,bz (λh=>?_) λh=>?_⟩
 ·have:=b7 h
  exact χ.mk ⟨.inr ⟨by omega,rfl⟩,ζ⟩
 have ι:=dd h;exact χ.mk ⟨.inl ⟨by omega,rfl⟩,ζ⟩
def boxed(x:cP×Int):Value:=.iface LQ (.agg #[.int .i64 x.1.k,.int .i64 x.1.v,.int .i64 x.1.b,.int .i64 x.1.s,.slice x.1.p x.1.n x.1.c,.int .i64 x.2])
structure Mn(w:World)(B bl:Nat)(xs:List (cP×Int))(al:Int)(q:J)(c:Nat):Prop where
 ρ:μ w B q5 2 (some ⟨bl,0,none⟩) 1 1 [.slice q xs.length c,.int .i64 al]
 ai:kD w B we 1 q xs.length c (xs.map boxed)
 bo:∀x∈xs,μ w B dk 1 x.1.p x.1.n x.1.c (bytesOf x.1)/\Small x.1
def Xl(bl:Nat)(q:J)(i:Nat):Prop:=i=bl\/∃x,q=some x/\x.block=i
def mD(w:World)(B bl:Nat)(xs:List (cP×Int))(al:Int)(D:bf):Prop:=∃q c,Mn w B bl xs al q c/\∀i,D i↔Xl bl q i
theorem Mn.aH{w w':World}{S:bf}{B bl:Nat}{xs:List (cP×Int)}{al:Int}{q:J}{c:Nat}(h:Mn w B bl xs al q c)(k:Kp w w' S)(ω:∀i,Xl bl q i->¬S i)(db:∀i,S i->¬Typed w dk i):Mn w' B bl xs al q c:=
 ⟨h.ρ.aH k λx I=>ω _ (.inl (by cases I;rfl)),h.ai.aH k λx I=>ω _ (.inr ⟨x,I,rfl⟩),λx I=>⟨(h.bo x I).1.aH k λa aQ ep=>db _ ep ((h.bo x I).1.typed aQ).1,(h.bo x I).2⟩⟩
theorem mD.aH{w w':World}{S:bf}{B bl:Nat}{xs:List (cP×Int)}{al:Int}{D:bf}(h:mD w B bl xs al D)(k:Kp w w' S)(ω:∀i,D i->¬S i)(db:∀i,S i->¬Typed w dk i):mD w' B bl xs al D:=by obtain⟨q,c,h,b4⟩:=h;exact⟨q,c,h.aH k (λi o=>ω i ((b4 i).2 o)) db,b4⟩
theorem mD.ex{w w':World}{B bl:Nat}{xs:List (cP×Int)}{al:Int}{D:bf}(h:mD w B bl xs al D)(k:η w w'):mD w' B bl xs al D:=h.aH k (λ_ _ h=>h) λ_ h=>h.elim
theorem mD.typed{w:World}{B bl:Nat}{xs:List (cP×Int)}{al:Int}{D:bf}(h:mD w B bl xs al D){i:Nat}(o:D i):(Typed w q5 i\/Typed w we i)/\B<=i/\i<w.heap.size:=by
 obtain⟨q,c,h,b4⟩:=h;rcases(b4 i).1 o with rfl|⟨x,I,rfl⟩
 ·exact⟨.inl (h.ρ.typed rfl).1,(h.ρ.typed rfl).2⟩
 ·exact⟨.inr (h.ai.typed I).1,(h.ai.typed I).2⟩
def Qu(w:World)(B bl:Nat)(xs:List (cP×Int))(al:Int)(D:bf)(w':World):Prop:=∃bb,mD w' B bl xs al bb/\Kp w w' D/\∀i,bb i->D i\/w.heap.size<=i
theorem zo(w:World):DJ.C w (χ λv w'=>v=.pointer (some ⟨w.heap.size,0,none⟩)/\η w w'/\∃D,mD w' w.heap.size w.heap.size [] 0 D):=by apply DJ.ok;unfold DJ.main;rintro δ γ rfl rfl;have ρ:=μ.new (w:=w) [.slice none 0 0,.int .i64 0] q5;exact χ.mk ⟨rfl,η.alloc w _,_,none,0,⟨ρ,kD.nil _ _ _ _,λx I=>by cases I⟩,λi=>mR⟩
theorem aij{w:World}{B bl:Nat}{xs:List (cP×Int)}{al:Int}{D:bf}(h:mD w B bl xs al D):DH.C (some ⟨bl,0,none⟩) w (χ λv w'=>v=.int .i64 ((xs.length:Nat):Int)/\w'=w):=by
 apply DH.ok;unfold DH.main;obtain⟨q,c,⟨h1,ι,aG⟩,b4⟩:=h
 try dsimp only[mI,bk,iY]
 exact⟨_,_,_,h1.at (j:=0) rfl,χ.mk ⟨rfl,rfl⟩⟩
theorem ah3{w:World}{B bl:Nat}{al:Int}{D:bf}(h:mD w B bl [] al D):yg.C (some ⟨bl,0,none⟩) w (χ λv w'=>v=.tuple #[.int .i64 0,.agg lF.toArray,.int .i64 4]/\η w w'):=by
 apply yg.ok;unfold yg.main;obtain⟨q,c,⟨h1,ι,aG⟩,b4⟩:=h;rintro δ γ rfl rfl;have ρ:=μ.new (w:=w) lF ff;have ζ:=η.alloc w (.cells lF.toArray ff);unfold lF at ρ ζ;generalize w.alloc (.cells #[.int .i64 0,.int .i64 0,.int .i64 0,.int .i64 0,.slice none 0 0] ff)=γ at ρ ζ⊢
 try dsimp only[mI,bk,iY]
 refine⟨_,_,_,(h1.ex ζ).at (j:=0) rfl,?_⟩;rw[cond_pos (by simp)];refine ρ.put (by rfl) GS λτ bP ai=>?_;exact⟨_,rfl,ai.cells,χ.mk ⟨rfl,ζ.then bP λi o=>by rw[o];exact ew _⟩⟩
theorem Xe{w:World}{B bl:Nat}{x:cP×Int}{xs:List (cP×Int)}{al:Int}{D:bf}(h:mD w B bl (x::xs) al D):
  yg.C (some ⟨bl,0,none⟩) w (χ λv w'=>∃bT aT,v=.tuple #[.int .i64 x.2,.agg (cP.cells {x.1 with p:=bT,c:=aT}).toArray,.int .i64 0]/\η w w'/\μ w' w.heap.size 5 1 bT x.1.n aT (bytesOf x.1)):=by
 apply yg.ok;unfold yg.main;obtain⟨q,c,⟨h1,ι,aG⟩,b4⟩:=h;rintro δ γ rfl rfl;have ρ:=μ.new (w:=w) lF ff;have ζ:=η.alloc w (.cells lF.toArray ff);unfold lF at ρ ζ;generalize w.alloc (.cells #[.int .i64 0,.int .i64 0,.int .i64 0,.int .i64 0,.slice none 0 0] ff)=γ at ρ ζ⊢
 try dsimp only[mI,bk,iY]
 refine⟨_,_,_,(h1.ex ζ).at (j:=0) rfl,?_⟩;rw[cond_neg (by simp;omega)];refine⟨_,_,_,(h1.ex ζ).at (j:=0) rfl,aW (by simp) ?_⟩;obtain⟨a,aC,jT⟩:=((ι.ex ζ).cells).one (v:=boxed x) rfl;refine gG aC ⟨_,jT,?_⟩;unfold boxed;refine aW rfl ?_
 try dsimp only[hx,ie]
 rintro θ az rfl rfl;have cx:=μ.new (w:=γ) [.int .i64 0,.int .i64 0,.int .i64 0,.int .i64 0,.slice none 0 0,.int .i64 0] LQ;have aA:=η.alloc γ (.cells #[.int .i64 0,.int .i64 0,.int .i64 0,.int .i64 0,.slice none 0 0,.int .i64 0] LQ);generalize γ.alloc (.cells #[.int .i64 0,.int .i64 0,.int .i64 0,.int .i64 0,.slice none 0 0,.int .i64 0] LQ)=az at cx aA⊢;refine aW rfl ?_
 skip
 refine cx.put (by rfl) asH λaE dN cu=>?_;have ak:η γ aE.drew:=(aA.then dN λi o=>by rw[o];exact ew _).trans (η.drew aE);have cu:=cu.ex (η.drew aE);generalize aE.drew=aE at ak cu⊢;refine⟨_,cu.at (j:=5) rfl,_,rfl,(cu.cells).take 5,?_⟩;obtain⟨d1,d2⟩:=aG x (n2 ..);refine κ.use (MP x.1 aE ⟨((d1.ex ζ).ex ak).cells,d2⟩) ?_;rintro _ ba ⟨bT,aT,rfl,aI,bS⟩;unfold cP.cells
 try dsimp only[hx,ie]
 refine⟨(cu.ex aI).at (j:=5) rfl,aW rfl ?_⟩
 skip
 have s1:w.heap.size<γ.heap.size:=(ρ.typed rfl).2.2;have adY:=ak.size;refine((ρ.ex ak).ex aI).put (by rfl) GS λb5 fL e6=>?_;refine⟨_,rfl,e6.cells,χ.mk ⟨bT,aT,rfl,((ζ.trans ak).trans aI).then fL λi o=>by rw[o];exact ew _,?_⟩⟩;refine(bS.aH fL λy e o=>?_).lower (by omega)
 have:=(bS.ge e).1
 omega
theorem alB(a b c d t:Int)(p:J)(n m:Nat):Instr.fill (λi=>#[(0,5),(5,1)][i]?) #[(Value.int .i64 0),(Value.int .i64 0),(Value.int .i64 0),(Value.int .i64 0),(Value.slice none 0 0),(Value.int .i64 0)] [(0,(Value.agg #[.int .i64 a,.int .i64 b,.int .i64 c,.int .i64 d,.slice p n m])),(1,(Value.int .i64 t))]=
  some #[.int .i64 a,.int .i64 b,.int .i64 c,.int .i64 d,.slice p n m,.int .i64 t]:=by
 simp[Instr.fill,Value.cells]
theorem aiT{w:World}{B bl:Nat}{xs:List (cP×Int)}{al:Int}{D:bf}(h:mD w B bl xs al D)(dW:B<=w.heap.size)(r:cP)(υ:QT w r)(hk:a6.mY w D r.p (bytesOf r))(aP:0<=al/\al<1000000):
  DI.C (some ⟨bl,0,none⟩) r.k r.v r.b r.s r.p r.n r.c w (χ λv w'=>
   (¬fa r.k/\v=.tuple #[.int .i64 0,.int .i64 1]/\η w w')\/(fa r.k/\16<=xs.length/\v=.tuple #[.int .i64 0,.int .i64 12]/\η w w')\/
   (fa r.k/\xs.length<16/\v=.tuple #[.int .i64 (al+1),.int .i64 0]/\∃bT aT,Qu w B bl (xs++[({r with p:=bT,c:=aT},al+1)]) (al+1) D w')):=by
 apply DI.ok;unfold DI.main;obtain⟨q,c,⟨h1,ι,aG⟩,b4⟩:=h;rintro δ γ rfl rfl;have ρ:=μ.new (w:=w) (cP.cells r) ff;have ζ:=η.alloc w (.cells (cP.cells r).toArray ff);unfold cP.cells at ρ ζ;generalize w.alloc (.cells #[.int .i64 r.k,.int .i64 r.v,.int .i64 r.b,.int .i64 r.s,.slice r.p r.n r.c] ff)=γ at ρ ζ⊢
 try dsimp only[mI,bk,iY]
 refine⟨_,rfl,ρ.cells,?_⟩;refine κ.use (A1 r γ) ?_;rintro _ τ ⟨aJ,σ⟩;have c7:=ζ.trans σ;rcases aJ.symm with⟨bJ,rfl⟩|⟨bJ,rfl⟩
 ·try dsimp only[bH]
  rw[cond_pos (by decide)];exact χ.mk (.inl ⟨bJ,rfl,c7⟩)
 try dsimp only[bH]
 rw[cond_neg (by decide)];have g1:=h1.ex c7;have g2:=ι.ex c7;have g3:∀x∈xs,μ τ B dk 1 x.1.p x.1.n x.1.c (bytesOf x.1):=λx I=>(aG x I).1.ex c7;have ρ:=ρ.ex σ;refine⟨_,_,_,g1.at (j:=0) rfl,bz (λh=>?_) λh=>?_⟩
 ·have:=b7 h
  exact χ.mk (.inr (.inl ⟨bJ,by omega,rfl,c7⟩))
 have bM:xs.length<16:=by have:=dd h;omega
 simp only[dv];refine⟨_,g1.at (j:=1) rfl,?_⟩;rw[bY (x:=al+1) (by omega) (by omega)];refine g1.da (j:=1) (by show 1<1*2;omega) rfl λaz cz DD=>?_;have za:Typed τ q5 bl:=(g1.typed rfl).1;have ly:B<=bl:=(g1.typed rfl).2.1;have ZT:=(g2.cB cz q5 (λi o=>o▸za) (by decide)).ex (η.drew az);have Bu:∀x∈xs,μ az.drew B dk 1 x.1.p x.1.n x.1.c (bytesOf x.1):=λx I=>((g3 x I).cB cz q5 (λi o=>o▸za) (by decide)).ex (η.drew az);have rZ:=(ρ.cB cz q5 (λi o=>o▸za) (by decide)).ex (η.drew az);have DD:=DD.ex (η.drew az);have Gu:Kp w az.drew λi=>i=bl:=(c7.aH _).fZ (cz.fZ ((η.drew az).aH _));have iZ:QT az.drew r:=⟨hk _ (Gu.mono λi _ o=>(b4 i).2 (.inl o)),υ.small⟩;clear g1 g2 g3 ρ cz;generalize az.drew=az at DD ZT Bu rZ Gu iZ⊢;refine⟨_,_,_,DD.at (j:=0) rfl,_,rfl,rZ.cells,_,DD.at (j:=1) rfl,?_⟩;refine κ.use (MP r az iZ) ?_;rintro _ aE ⟨bT,aT,rfl,ak,cu⟩;unfold cP.cells
 try dsimp only[hx]
 have g1:=DD.ex ak;refine⟨g1.at (j:=1) rfl,g1.at (j:=0) rfl,gG (alB _ _ _ _ _ _ _ _) ?_⟩;rintro θ bm rfl rfl;have aV:=η.alloc aE (.cells #[boxed ({r with p:=bT,c:=aT},al+1)] we);have nb:a7 (aE.alloc (.cells #[boxed ({r with p:=bT,c:=aT},al+1)] we)) (some ⟨aE.heap.size,0,none⟩) [boxed ({r with p:=bT,c:=aT},al+1)]:=a7.alloc _ we;unfold boxed at aV nb;dsimp only at aV nb;generalize aE.alloc (.cells #[.iface LQ (.agg #[.int .i64 r.k,.int .i64 r.v,.int .i64 r.b,.int .i64 r.s,.slice bT r.n aT,.int .i64 (al+1)])] we)=bm at aV nb⊢;have Md:=ak.trans aV;have g1:=DD.ex Md;have g2:=ZT.ex Md;have g3:∀x∈xs,μ bm B dk 1 x.1.p x.1.n x.1.c (bytesOf x.1):=λx I=>(Bu x I).ex Md;have aad:B<=az.heap.size:=fY dW Gu.size;have Nx:B<=bm.heap.size:=fY aad Md.size;have er:=(cu.ex aV).lower aad;have tO:Kp w bm λi=>i=bl:=Gu.fZ (Md.aH _);refine⟨g1.at (j:=0) rfl,?_⟩;refine aju (ajv g2 Nx [boxed ({r with p:=bT,c:=aT},al+1)] nb rfl (λy ah=>by simp only[lB]at ah;subst ah;rfl) rfl (by omega) (by omega) λbh bI b5 g8 fL rL=>?_);have Wo:∀i,(∃x,q=some x/\x.block=i)->Typed bm we i:=λi⟨x,I,o⟩=>o▸(g2.typed I).1;have g1:=g1.cB fL we Wo (by decide);have e6:=er.cB fL we Wo (by decide);have g3:∀x∈xs,μ b5 B dk 1 x.1.p x.1.n x.1.c (bytesOf x.1):=λx I=>(g3 x I).cB fL we Wo (by decide);have za:Typed b5 q5 bl:=(g1.typed rfl).1;refine g1.da (j:=0) (by show 0<1*2;omega) rfl λcf iL g9=>?_;refine⟨_,g9.at (j:=1) rfl,χ.mk (.inr (.inr ⟨bJ,bM,rfl,bT,aT,_,⟨bh,bI,⟨?_,?_,?_⟩,λi=>mR⟩,?_,?_⟩))⟩
 ·rw[fe];exact g9
 ·rw[fe,q0];exact g8.cB iL q5 (λi o=>o▸za) (by decide)
 ·intro x I;rcases iG.1 I with I|I
  ·exact⟨(g3 x I).cB iL q5 (λi o=>o▸za) (by decide),(aG x I).2⟩
  ·simp only[lB]at I;subst I;exact⟨e6.cB iL q5 (λi o=>o▸za) (by decide),υ.small.len,υ.small.fT,υ.small.wf⟩
 ·have aif:Kp w b5 λi=>i=bl\/∃x,q=some x/\x.block=i:=(tO.mono λi _ o=>.inl o).fZ (fL.mono λi _ o=>.inr o);exact(aif.fZ (iL.mono λi _ o=>.inl o)).mono λi _ o=>(b4 i).2 o
 ·intro i o;rcases o with rfl|⟨x,I,rfl⟩
  ·exact .inl ((b4 _).2 (.inl rfl))
  ·rcases rL with h|h
   ·exact .inl ((b4 _).2 (.inr ⟨x,h▸I,rfl⟩))
   ·exact .inr (fY tO.size (h x I))
theorem asK{p:J}{m l s:Nat}{x:Addr}(h:du p m l s=some x):∃a,p=some a/\x.block=a.block:=by
 unfold du at h;split at h
 ·exact⟨x,h,rfl⟩
 ·cases p with
  |none=>cases h
  |some a=>cases h;exact⟨a,rfl,x1 a _⟩
theorem ahX{w:World}{B bl:Nat}{x:cP×Int}{xs:List (cP×Int)}{al:Int}{D:bf}(h:mD w B bl (x::xs) al D):DG.C (some ⟨bl,0,none⟩) w (χ λv w'=>v=.int .i64 0/\Qu w B bl xs al D w'):=by
 apply DG.ok;unfold DG.main;refine κ.use (Xe h) ?_;rintro _ γ ⟨bT,aT,rfl,ζ,_⟩;unfold cP.cells
 try dsimp only[bk,bX,cC,cD,mK,bH,hx,ie]
 rintro δ aa rfl rfl;have bo:=μ.new (w:=γ) lF ff;have ad:=η.alloc γ (.cells lF.toArray ff);unfold lF at bo ad;generalize γ.alloc (.cells #[.int .i64 0,.int .i64 0,.int .i64 0,.int .i64 0,.slice none 0 0] ff)=aa at bo ad⊢;refine aW rfl ?_
 skip
 refine bo.put (by rfl) GS λaz cz cx=>?_;rw[cond_neg (by decide)];have iQ:η w az:=ζ.trans (ad.then cz λi o=>by rw[o];exact ew _);obtain⟨q,c,⟨g1,g2,g3⟩,b4⟩:=h.ex iQ;refine⟨_,_,_,g1.at (j:=0) rfl,aW (by simp only[k5];omega) ?_⟩;have za:Typed az q5 bl:=(g1.typed rfl).1;refine g1.da (j:=0) (by show 0<1*2;omega) rfl λaE dN g5=>?_;refine χ.mk ⟨rfl,_,⟨du q c 1 1,c-1,⟨?_,?_,?_⟩,λi=>mR⟩,((iQ.aH _).fZ dN).mono λi _ o=>(b4 i).2 (.inl o),λi o=>.inl ((b4 i).2 ?_)⟩
 ·exact g5
 ·have:=(g2.cB dN q5 (λi o=>o▸za) (by decide)).tail (by simp) (by decide)
  simpa using this
 ·intro y ah
  have:=g3 y (hW _ ah)
  exact⟨this.1.cB dN q5 (λi o=>o▸za) (by decide),this.2⟩
 ·rcases o with o|⟨x,I,o⟩
  ·exact .inl o
  ·obtain⟨a,aQ,sU⟩:=asK I;exact .inr ⟨a,aQ,sU.symm.trans o⟩
end Go.Proofs.YtcpdfhkhaekekaaGreat.G.b9
namespace Go.Proofs.YtcpdfhkhaekekaaGreat.G.aR
open Go.bO Go.RowKit cL eh eW c5
structure aR where
 s:Int
 k:Int
 d:a6.c3
 R:bR
 st:bw.hi
 seq:Int
 used:Nat
 dl:List fx
 lj:Bool
 clock:Int
 stamps:an
structure Ask where
 k:Int
 v:Int
 b:Int
 s:Int
 bs:an
structure gS where
 e:Int
 id:Int
 bs:an
 qR:an
def iF(R:bR):Nat:=(gm (used R)).length
def aR.cap(m:aR):Int:=(m.s-4)*m.k
def mT(k:Int)(x:dh):Int:=40+(x.1*k+x.2)
def hf(k:Int)(d:a6.c3)(x:dh):an:=d.now.getD (mT k x).toNat []
def oK(m:aR)(d:fx):aR:={m with dl:=m.dl++[d],lj:=true}
def hd:gS:=⟨0,0,[],[]⟩
def fail(m:aR)(e:Int):aR×gS:=(m,⟨e,0,[],[]⟩)
def zN(st:bw.hi):an->bw.hi
 |[]=>st
 |x::r=>zN (bw.nL st x).1 r
def qI(m:aR):aR:=
 {m with d:=uR (kK m.d) m.s m.k (m.seq+1) m.R,seq:=m.seq+1,used:=0,dl:=[],lj:=false,st:=zN m.st (kt m.s.toNat (lays (used m.R)) [m.st.head])}
def xF(m:aR):aR:=
 if m.lj=false then m
 else if(16-m.used)*6<m.dl.length then qI m
 else{m with d:=kK (Ck (kK m.d) m.seq m.used m.dl),used:=m.used+j2 m.dl.length,dl:=[],lj:=false}
def fP(m:aR)(bs:an)(spare:Int):aR×dh:=
 let n:=bw.next m.st spare
 let x:dh:=(n.2.2.1.toNat,n.2.2.2.toNat)
 ({m with st:=n.1,d:=a6.da m.d (mT m.k x) bs,stamps:=m.stamps.set x.1 m.clock},x)
def om(m:aR):an:=m.stamps.map λt=>min2 (m.clock-t) 65535
def e3(m:aR)(g:Nat):List dh:=(lays (used m.R)).filter λx=>decide ((x.1:Int)=(g:Int))
def hK(m:aR):List dh->aR×List dh
 |[]=>(m,[])
 |x::r=>((hK (fP m (hf m.k m.d x) 0).1 r).1,(fP m (hf m.k m.d x) 0).2::(hK (fP m (hf m.k m.d x) 0).1 r).2)
def pN(m:aR):aR:=match r6 m.k (hU m.s.toNat (lays (used m.R))) (om m) m.st.head with
 |none=>qI m
 |some g=>qI {(hK m (e3 m g)).1 with R:=k3 m.R (e3 m g) (hK m (e3 m g)).2}
def IL(m:aR)(a:Ask):aR×gS:=match fS m.R a.v with
 |none=>fail m 4
 |some e=>
  if e.1=2 then fail m 8
  else if a.b<0\/e.2.1<=a.b then fail m 5
  else if a.bs.length≠64 then fail m 6
  else if m.cap<(iF m.R:Int)+1 then fail m 9
  else if bw.room m.st 2=false then fail m 12
  else
   let p:=fP m a.bs 2
   (oK {p.1 with R:=jv m.R a.v.toNat a.b.toNat (some p.2)} ⟨4,a.v,0,a.b,p.2.1,p.2.2⟩,hd)
def eS(m:aR)(a:Ask):aR×gS:=
 if a.k=1 then
  (if 1<=a.s/\a.s<=32 then(match lf m.R with
   |none=>fail m 7
   |some i=>(oK {m with R:=m.R.set i (1,a.s,List.replicate a.s.toNat none)} ⟨1,i,0,a.s,0,0⟩,{hd with id:=i}))else fail m 5)
 else if a.k=2 then(match fS m.R a.v with
  |none=>fail m 4
  |some _=>(oK {m with R:=m.R.set a.v.toNat (0,0,[])} ⟨2,a.v,0,0,0,0⟩,hd))
 else if a.k=3 then(match fS m.R a.v with
  |none=>fail m 4
  |some e=>(match lf m.R with
   |none=>fail m 7
   |some i=>(oK {m with R:=m.R.set i (2,e.2.1,e.2.2)} ⟨3,a.v,i,0,0,0⟩,{hd with id:=i})))
 else if a.k=4 then(match fS m.R a.v with
  |none=>fail m 4
  |some e=>if a.b<0\/e.2.1<=a.b then fail m 5 else(match(e.2.2[a.b.toNat]?).join with
   |none=>(m,{hd with bs:=a6.ia})
   |some x=>(m,{hd with bs:=hf m.k m.d x})))
 else if a.k=5 then IL m a
 else if a.k=6 then(match fS m.R a.v with
  |none=>fail m 4
  |some e=>if e.1=2 then fail m 8 else if a.b<0\/e.2.1<=a.b then fail m 5
   else(oK {m with R:=jv m.R a.v.toNat a.b.toNat none} ⟨5,a.v,0,a.b,0,0⟩,hd))
 else if a.k=7 then(xF m,hd)
 else if a.k=8 then(m,{hd with qR:=[(iF m.R:Int),m.cap]})
 else(match fS m.R a.v with
  |none=>fail m 4
  |some e=>(m,{hd with qR:=[e.1,e.2.1]}))
def tick(m:aR):aR:={m with clock:=m.clock+1}
structure Inv(m:aR):Prop where
 gx:6<=m.s/\m.s<=24/\2<=m.k/\m.k<=16
 len:m.R.length=8
 ok:∀e∈m.R,lz e
 fit:lG m.s m.k m.R
 fa:bw.Good m.st
 gH:m.st.gH=m.s
 blocks:m.st.blocks=m.k
 two:2<=m.st.free.length
 free:∀x∈used m.R,(x.1:Int)∉m.st.free
 head:∀x∈used m.R,(x.1:Int)=m.st.head->(x.2:Int)<m.st.used
 dev:a6.Good m.d
 off:m.d.off=false
 after:m.d.after=-1
 me:(m.d.now.length:Int)=40+m.s*m.k
 n5:m.stamps.length=m.s.toNat
 qi:∀t∈m.stamps,0<=t/\t<=m.clock
 dl:∀d∈m.dl,d.wf/\hS d=0
 mX:m.used<=16
 seq:1<=m.seq
theorem agL{R:bR}{i:Nat}{e:fF}{x:dh}(h:x∈used (R.set i e)):x∈used R\/some x∈e.2.2:=by
 obtain⟨a,aQ,I⟩:=vJ.1 h;rcases pk aQ with aQ|rfl
 ·exact .inl (vJ.2 ⟨a,aQ,I⟩)
 ·exact .inr I
theorem apt{R vh:bR}(h:∀x∈used vh,x∈used R):iF vh<=iF R:=
 rW _ _ (xl _) λx I=>(kl _ _).2 (h x ((kl _ _).1 I))
theorem apu{R vh:bR}{y:dh}(h:∀x∈used vh,x∈used R\/x=y):iF vh<=iF R+1:=by
 have:=rW (gm (used vh)) (y::gm (used R)) (xl _) λx I=>by
  rcases h x ((kl _ _).1 I)with h|rfl
  ·exact hW _ ((kl _ _).2 h)
  ·exact n2
 simpa[iF]using this
theorem ab6{s k:Int}(h:6<=s/\s<=24/\2<=k/\k<=16):may s k=true:=uE.2 h
theorem Ob{s k:Int}(h:6<=s/\s<=24/\2<=k/\k<=16)(x:dh):Hq s k (some x)=true↔(x.1:Int)<s/\(x.2:Int)<k:=by
 rw[Ko];simp only[kx,po];constructor
 ·rintro⟨ι,aG⟩;refine⟨?_,ι⟩;by_cases h1:(x.1:Int)<s
  ·exact h1
  ·have:=HZ (show s<=(x.1:Int)by omega) (show 0<=k by omega)
   omega
 ·rintro⟨h1,ι⟩;refine⟨ι,?_⟩
  have:=HZ (show(x.1:Int)+1<=s by omega) (show 0<=k by omega)
  have e:((x.1:Int)+1)*k=x.1*k+k:=by rw[Int.add_mul,Int.one_mul]
  omega
theorem lu{s k:Int}(h:6<=s/\s<=24/\2<=k/\k<=16){R:bR}:lG s k R↔lo R/\(∀x∈used R,(x.1:Int)<s/\(x.2:Int)<k)/\(iF R:Int)<=(s-4)*k:=by unfold lG CJ;rw[U5];exact⟨λ⟨⟨_,ι,aG⟩,cq⟩=>⟨ι,λx I=>(Ob h x).1 (aG x I),cq⟩,λ⟨ι,aG,cq⟩=>⟨⟨ab6 h,ι,λx I=>(Ob h x).2 (aG x I)⟩,cq⟩⟩
structure Same(m m':aR):Prop where
 s:m'.s=m.s
 k:m'.k=m.k
 st:m'.st=m.st
 d:m'.d=m.d
 seq:m'.seq=m.seq
 used:m'.used=m.used
 clock:m'.clock=m.clock
 stamps:m'.stamps=m.stamps
theorem OE{e:fF}(h:∀q∈e.2.2,kc q)(ω:qz e):lz e:=by
 have h1:=ω.1;have aG:=ω.2.2.1;have cq:=ω.2.2.2
 have:0<=e.2.1/\e.2.1<256:=by
  by_cases aD:e.1=0
  ·rw[aG aD];omega
  ·have:=cq aD;omega
 exact⟨h,by omega,⟨ω.2.1.1,by have:=ω.2.1.2;omega⟩,this⟩
theorem Inv.set{m m':aR}(h:Inv m)(ω:Same m m'){i:Nat}{e:fF}(ij:m'.R=m.R.set i e)(ep:qz e)(mN:∀x,some x∈e.2.2->x∈used m.R)(wX:∀d∈m'.dl,d.wf/\hS d=0):Inv m':=by
 have jb:∀x∈used m'.R,x∈used m.R:=λx I=>by
  rw[ij]at I;rcases agL I with h|h
  ·exact h
  ·exact mN x h
 obtain⟨f1,f2,f3⟩:=(lu h.gx).1 h.fit;have hle:=apt jb;refine⟨by rw[ω.s,ω.k];exact h.gx,by rw[ij,im];exact h.len,λa aQ=>?_,?_,by rw[ω.st];exact h.fa,by rw[ω.st,ω.s];exact h.gH,by rw[ω.st,ω.k];exact h.blocks,by rw[ω.st];exact h.two,λx I=>by rw[ω.st];exact h.free x (jb x I),λx I=>by rw[ω.st];exact h.head x (jb x I),
  by rw[ω.d];exact h.dev,by rw[ω.d];exact h.off,by rw[ω.d];exact h.after,by rw[ω.d,ω.s,ω.k];exact h.me,by rw[ω.stamps,ω.s];exact h.n5,by rw[ω.stamps,ω.clock];exact h.qi,wX,by rw[ω.used];exact h.mX,by rw[ω.seq];exact h.seq⟩
 ·rw[ij]at aQ;rcases pk aQ with aQ|rfl
  ·exact h.ok a aQ
  ·refine OE (λq aC=>?_) ep;cases q with
   |none=>trivial
   |some x=>
    obtain⟨cO,dG,lR⟩:=vJ.1 (mN x aC);exact(h.ok cO dG).1 _ lR
 ·rw[ω.s,ω.k];refine(lu h.gx).2 ⟨λa aQ=>?_,λx I=>f2 x (jb x I),by omega⟩;rw[ij]at aQ;rcases pk aQ with aQ|rfl
  ·exact f1 a aQ
  ·exact ep
theorem Zb{m:aR}(h:Inv m){d:fx}(hw:d.wf)(π:hS d=0):∀x∈m.dl++[d],x.wf/\hS x=0:=λx I=>by
 rcases iG.1 I with I|I
 ·exact h.dl x I
 ·simp only[lB]at I;subst I;exact⟨hw,π⟩
structure A7(st:bw.hi)(U:List dh):Prop where
 free:∀x∈U,(x.1:Int)∉st.free
 head:∀x∈U,(x.1:Int)=st.head->(x.2:Int)<st.used
structure nH(m:aR):Prop where
 gx:6<=m.s/\m.s<=24/\2<=m.k/\m.k<=16
 fa:bw.Good m.st
 gH:m.st.gH=m.s
 blocks:m.st.blocks=m.k
theorem Inv.base{m:aR}(h:Inv m):nH m:=⟨h.gx,h.fa,h.gH,h.blocks⟩
theorem Inv.Ir{m:aR}(h:Inv m):A7 m.st (used m.R):=⟨h.free,h.head⟩
structure Mp(m m':aR)(x:dh)(bs:an)(U:List dh):Prop where
 base:nH m'
 ok:A7 m'.st (x::U)
 new:x∉U
 lt:(x.1:Int)<m.s/\(x.2:Int)<m.k
 s:m'.s=m.s
 k:m'.k=m.k
 R:m'.R=m.R
 d:m'.d=a6.da m.d (mT m.k x) bs
 sub:∀y∈m'.st.free,y∈m.st.free
 head:m'.st.head=x.1
 from_:(x.1:Int)=m.st.head\/(x.1:Int)∈m.st.free
 dl:m'.dl=m.dl
 seq:m'.seq=m.seq
 mX:m'.used=m.used
 clock:m'.clock=m.clock
 stamps:m'.stamps=m.stamps.set x.1 m.clock
 lj:m'.lj=m.lj
 fT:(bw.full m.st=true/\m'.st.free.length+1=m.st.free.length/\m'.st.used=1)\/(bw.full m.st=false/\m'.st.free=m.st.free/\m'.st.used=m.st.used+1)
theorem OP{m:aR}(h:nH m){U:List dh}(jb:A7 m.st U){k:Int}(hk:0<=k)(υ:bw.room m.st k=true)(bs:an):Mp m (fP m bs k).1 (fP m bs k).2 bs U:=by
 obtain⟨g1,g2,g3,g4,g5⟩:=bw.P0 h.fa hk υ;have NS:bw.next m.st k=({bw.j5 m.st with used:=(bw.j5 m.st).used+1},0,(bw.j5 m.st).head,(bw.j5 m.st).used):=by unfold bw.next;rw[aM (by omega),aS υ]
 have BD:=bw.ap2 h.fa k;rw[NS]at BD;have Hm:=g1.used.1;have dS:=g1.head.2;have axx:=h.gH;have o8:=h.blocks;have aO:(((bw.j5 m.st).head.toNat:Nat):Int)=(bw.j5 m.st).head:=K5 g2;have bE:(((bw.j5 m.st).used.toNat:Nat):Int)=(bw.j5 m.st).used:=K5 Hm;unfold fP;rw[NS];by_cases bg:bw.full m.st=true
 ·obtain⟨x,r,N5⟩:=bw.Sn h.fa hk υ bg;have aP:bw.j5 m.st={m.st with head:=x,used:=0,free:=r}:=by unfold bw.j5;rw[aS bg,N5];rfl
  rw[aP]at g1 g2 g3 g4 g5 BD Hm dS aO bE⊢;dsimp only at g1 g2 g3 g4 g5 BD Hm dS aO bE⊢;have I:x∈m.st.free:=by rw[N5];exact n2
  have mN:∀y∈r,y∈m.st.free:=λy ah=>by rw[N5];exact hW _ ah
  refine⟨⟨h.gx,BD,h.gH,h.blocks⟩,⟨λy ah=>?_,λy ah he=>?_⟩,λhu=>jb.free _ hu (by dsimp only;rw[aO];exact I),⟨by dsimp only;omega,by dsimp only;omega⟩,rfl,rfl,rfl,rfl,mN,aO.symm,.inr (by dsimp only;rw[aO];exact I),rfl,rfl,rfl,rfl,rfl,rfl,.inl ⟨bg,by rw[N5];rfl,by dsimp only;omega⟩⟩
  ·rcases fA.1 ah with rfl|ah
   ·dsimp only;rw[aO];exact BD.apart
   ·exactλhm=>jb.free y ah (mN _ hm)
  ·rcases fA.1 ah with rfl|ah
   ·dsimp only;omega
   ·exact absurd (by rw[he];exact I) (jb.free y ah)
 ·have bg:bw.full m.st=false:=by simpa using bg
  have aP:bw.j5 m.st=m.st:=by unfold bw.j5;rw[aM (by simp[bg])]
  rw[aP]at g1 g2 g3 g4 g5 BD Hm dS aO bE⊢;dsimp only at BD⊢;refine⟨⟨h.gx,BD,h.gH,h.blocks⟩,⟨λy ah=>?_,λy ah he=>?_⟩,λhu=>?_,⟨by dsimp only;omega,by dsimp only;omega⟩,rfl,rfl,rfl,rfl,λy ah=>ah,aO.symm,.inl aO,rfl,rfl,rfl,rfl,rfl,rfl,.inr ⟨bg,rfl,rfl⟩⟩
  ·rcases fA.1 ah with rfl|ah
   ·dsimp only;rw[aO];exact h.fa.apart
   ·exact jb.free y ah
  ·rcases fA.1 ah with rfl|ah
   ·dsimp only;omega
   ·have:=jb.head y ah he
    dsimp only;omega
  ·have:=jb.head _ hu (by dsimp only;exact aO)
   dsimp only at this;omega
structure iA(d d':a6.c3):Prop where
 fa:a6.Good d'
 off:d'.off=d.off
 after:d'.after=d.after
 len:d'.now.length=d.now.length
 o:∀i,40<=i->d'.now[i]?=d.now[i]?
theorem iA.refl{d:a6.c3}(h:a6.Good d):iA d d:=⟨h,rfl,rfl,rfl,λ_ _=>rfl⟩
theorem iA.trans{a b c:a6.c3}(h:iA a b)(k:iA b c):iA a c:=⟨k.fa,k.off.trans h.off,k.after.trans h.after,k.len.trans h.len,λi o=>(k.o i o).trans (h.o i o)⟩
theorem iA.da{a d:a6.c3}(h:iA a d)(uu:40<=a.now.length){i:Int}(o:0<=i/\i<40){s:an}(ω:a6.kE s):iA a (a6.da d i s):=
 h.trans ⟨a6.Vp h.fa (by rw[h.len];omega) ω,rfl,rfl,im,λj φ=>by show(d.now.set i.toNat s)[j]?=_;rw[List.getElem?_set_ne (by omega)]⟩
theorem ZJ{d:a6.c3}(h:a6.Good d):a6.Good (kK d):=⟨rfl,h.fT,h.now,h.now,(λp hp=>by cases hp),h.after⟩
theorem iA.flush{a d:a6.c3}(h:iA a d):iA a (kK d):=⟨ZJ h.fa,h.off,h.after,h.len,h.o⟩
theorem adu{a:a6.c3}(uu:40<=a.now.length):∀(l:List an)(d:a6.c3)(i:Int),iA a d->0<=i->i+l.length<=40->(∀s∈l,a6.kE s)->iA a (mu d i l)
 |[],d,i,h,_,_,_=>h
 |x::r,d,i,h,aD,h1,ω=>adu uu r _ _ (h.da uu (by simp at h1;omega) (ω x (by simp))) (by omega) (by simp at h1;omega) λs hm=>ω s (hW _ hm)
theorem apk{s k q:Int}{R:bR}(aC:uI q)(bg:lG s k R)(aB:∀e∈R,lz e)(dr:R.length=8):∀bl∈ix s k q (eQ k R),a6.kE bl:=λbl h=>⟨Ur bl h,Us aC bg aB dr bl h⟩
theorem aj7{R:bR}(dr:R.length=8)(h:lo R)(k:Int):cL.fs (eQ k R).length<=11:=by
 have:=HL dr h k
 unfold cL.fs;omega
theorem ass{a d:a6.c3}(h:iA a d)(uu:40<=a.now.length){s k q:Int}{R:bR}(aC:uI q)(bg:lG s k R)(aB:∀e∈R,lz e)(dr:R.length=8):iA a (uR d s k q R):=by
 have ω:=apk aC bg aB dr;have aj:=JQ s k q (eQ k R);have π:=aj7 dr bg.1.2.1 k;have aQ:=X9 q;unfold uR;refine iA.flush (iA.da (iA.flush (adu uu _ _ _ h (by omega) ?_ λx I=>ω x (VB I))) uu (by omega) (ω _ ?_))
 ·rw[E8,aj];omega
 ·cases lJ:ix s k q (eQ k R)with
  |nil=>rw[lJ]at aj;simp at aj;omega
  |cons x r=>exact n2
theorem as0{q:Int}{u:Nat}{l:List fx}(hy:l.length<=6)(aj:∀d∈l,d.wf/\hS d=0):a6.kE (kz (qf q u l)):=
 ⟨xE (by rw[Pt];omega),Ik (Ps (λd af=>(aj d af).1) λd af=>(aj d af).2)⟩
theorem aem{a d:a6.c3}(h:iA a d)(uu:40<=a.now.length)(q:Int)(u:Nat){l:List fx}(aj:∀d∈l,d.wf/\hS d=0):∀n:Nat,u+n<=16->iA a (FG d q u l (List.range n))
 |0,_=>h
 |n+1,ax=>by rw[uP,aen,Cc];exact(aem h uu q u aj n (by omega)).da uu (by omega) (as0 (by rw[Ro];unfold ma;omega) λx I=>aj x (Ji I))
theorem ael{a d:a6.c3}(h:iA a d)(uu:40<=a.now.length)(q:Int){u:Nat}{l:List fx}(aj:∀d∈l,d.wf/\hS d=0)(ax:u+j2 l.length<=16):iA a (Ck d q u l):=aem h uu q u aj _ ax
theorem Fw{s k:Int}(h:6<=s/\s<=24/\2<=k/\k<=16){x:dh}(I:(x.1:Int)<s/\(x.2:Int)<k):40<=mT k x/\mT k x<40+s*k:=by
 have:=((Ob h x).2 I)
 rw[Ko]at this;simp only[kx,po]at this;unfold mT;have aD:0<=(x.1:Int)*k:=yU (by omega) (by omega);omega
theorem asv{k:Int}(hk:0<k){x y:dh}(I:(x.2:Int)<k)(ah:(y.2:Int)<k)(h:mT k x=mT k y):x=y:=by
 unfold mT at h;have aO:(x.1:Int)*k+x.2=y.1*k+y.2:=by omega
 have ar:((x.1:Int)*k+x.2)/k=x.1:=by rw[Int.add_comm,VC _ _ (by omega),K1 (by omega) I];omega
 have a2:((y.1:Int)*k+y.2)/k=y.1:=by rw[Int.add_comm,VC _ _ (by omega),K1 (by omega) ah];omega
 have h1:(x.1:Int)=y.1:=by rw[<-ar,<-a2,aO]
 rw[h1]at aO;have ι:(x.2:Int)=y.2:=by omega
 exact AG (by omega) (by omega)
theorem iA.sec{a d:a6.c3}(h:iA a d){k:Int}(hk:0<=k)(x:dh):hf k d x=hf k a x:=by have aD:0<=(x.1:Int)*k:=yU (by omega) hk;unfold hf;rw[List.getD_eq_getElem?_getD,List.getD_eq_getElem?_getD,h.o _ (by unfold mT;omega)]
theorem VV{d:a6.c3}{s k:Int}(h:6<=s/\s<=24/\2<=k/\k<=16)(aj:(d.now.length:Int)=40+s*k){x:dh}(I:(x.1:Int)<s/\(x.2:Int)<k)(bs:an){y:dh}(ah:(y.1:Int)<s/\(y.2:Int)<k):hf k (a6.da d (mT k x) bs) y=if y=x then bs else hf k d y:=by
 have h1:=Fw h I;have ι:=Fw h ah;unfold hf;show(d.now.set (mT k x).toNat bs).getD _ _=_;rw[List.getD_eq_getElem?_getD,List.getD_eq_getElem?_getD,List.getElem?_set];by_cases e:y=x
 ·subst e;rw[aS rfl,aS (by omega),aS rfl];rfl
 ·rw[aM λbE=>e (asv (by omega) ah.2 I.2 (by omega)),aM e]
end Go.Proofs.YtcpdfhkhaekekaaGreat.G.aR
