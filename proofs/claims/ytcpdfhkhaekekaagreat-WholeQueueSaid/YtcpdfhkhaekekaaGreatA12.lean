/- The walk of the functions, and the plain laws of the model: part of the proof. Conditions: none. -/
import Derived.Test.YtcpdfhkhaekekaaGreatA11
set_option linter.unusedVariables false
set_option linter.unusedSimpArgs false
namespace Go.Proofs.YtcpdfhkhaekekaaGreat.G.dB
open Go.bI Go.RowKit
def p7(d:fC):ao:=[d.k,d.v*16+d.γ,d.b,d.x,d.y]
def Ag(d:fC):ao:=if h4 d=0 then p7 d else[]
structure XN(d:fC):Prop where
 k:1<=d.k/\d.k<6
 v:0<=d.v/\d.v<8
 γ:0<=d.γ/\d.γ<8
 b:0<=d.b/\d.b<33
 x:0<=d.x/\d.x<24
 y:0<=d.y/\d.y<16
theorem Z4{d:fC}(hw:d.wf)(h:h4 d=0):XN d:=by
 obtain⟨k,v,γ,b,x,y⟩:=d;obtain⟨I,ag⟩:=hw;unfold qJ at I ag;dsimp only at I ag;unfold h4 at h;split at h
 ·rename_i hk;split at h
  ·rename_i aE;split at h
   ·rename_i an;obtain⟨bd,fm,uO,EX⟩:=an;simp only[oa,kH,pJ]at hk;have n2:k=1\/k=2\/k=3\/k=4\/k=5:=by omega
    rcases n2 with rfl|rfl|rfl|rfl|rfl<;>simp[jn,oa,whole,td,tc,rX,rY]at aE bd fm uO EX<;>constructor<;>dsimp only<;>omega
   ·cases h
  ·cases h
 ·cases h
theorem arn:∀(v γ:Fin 16),IntKind.i64.wrap ((BitVec.ofInt IntKind.i64.bits (IntKind.i64.wrap ((v.val:Int)*2^(min 4 IntKind.i64.bits)))|||BitVec.ofInt IntKind.i64.bits (γ.val:Int)).toNat:Int)=(v.val:Int)*16+(γ.val:Int):=by decide+kernel
theorem VD{v γ:Int}(aL:0<=v/\v<16)(aE:0<=γ/\γ<16):IntKind.i64.wrap ((BitVec.ofInt IntKind.i64.bits (IntKind.i64.wrap (v*2^(min 4 IntKind.i64.bits)))|||BitVec.ofInt IntKind.i64.bits γ).toNat:Int)=v*16+γ:=by obtain⟨m,rfl⟩:=eR aL.1;obtain⟨n,rfl⟩:=eR aE.1;exact arn ⟨m,by omega⟩ ⟨n,by omega⟩
theorem akf:∀(x:Fin 256),IntKind.i64.wrap (IntKind.u8.wrap ((BitVec.ofInt IntKind.u8.bits (x.val:Int)&&&BitVec.ofInt IntKind.u8.bits 15).toNat:Int))=(x.val:Int)%16:=by decide+kernel
theorem ake{x:Int}(h:qJ x):IntKind.i64.wrap (IntKind.u8.wrap ((BitVec.ofInt IntKind.u8.bits x&&&BitVec.ofInt IntKind.u8.bits 15).toNat:Int))=x%16:=by obtain⟨n,rfl⟩:=eR h.1;exact akf ⟨n,by have:=h.2;omega⟩
theorem atl:∀(x:Fin 256),IntKind.i64.wrap (Int.fdiv (x.val:Int) (2^(min 4 IntKind.u8.bits)))=(x.val:Int)/16:=by decide+kernel
theorem atk{x:Int}(h:qJ x):IntKind.i64.wrap (Int.fdiv x (2^(min 4 IntKind.u8.bits)))=x/16:=by obtain⟨n,rfl⟩:=eR h.1;exact atl ⟨n,by have:=h.2;omega⟩
theorem alO{d:fC}(h:XN d):Bytes (p7 d):=by
 intro z aI
 have:=h.k;have:=h.v;have:=h.γ;have:=h.b;have:=h.x;have:=h.y
 simp only[p7,fE,oj,pa]at aI;omega
theorem aiO{d:fC}(ae:d.wf)(w:World):D0.C d.k d.v d.γ d.b (cw d.x) (cw d.y) w (φ λv w'=>∃p c,v=.tuple #[.slice p (Ag d).length c,.int .i64 (h4 d)]/\θ w w'/\μ w' w.heap.size cG 1 p (Ag d).length c (bg (Ag d))):=by
 apply D0.ok;unfold D0.main;rintro ε δ rfl rfl;have ρ:=μ.new (w:=w) d.cells ft;have ζ:=θ.alloc w (.cells d.cells.toArray ft);unfold fC.cells at ρ ζ;generalize w.alloc (.cells #[.int .i64 d.k,.int .i64 d.v,.int .i64 d.γ,.int .i64 d.b,.complex .f64 (cw d.x) (cw d.y)] ft)=δ at ρ ζ⊢;refine⟨d.cells.toArray,rfl,ρ.cells,?_⟩;refine κ.use (Bj ae _) ?_;rintro _ υ ⟨rfl,τ⟩
 try dsimp only[bH]
 have dG:=ζ.trans τ;have az:=ρ.ex τ;refine bA (λh=>?_) λh=>?_
 ·have π:¬h4 d=0:=by simpa using h
  refine φ.mk ⟨none,0,?_,dG,?_⟩
  ·unfold Ag;rw[aN π];rfl
  ·unfold Ag;rw[aN π];exact μ.nil _ _ _ _
 ·have π:h4 d=0:=by simpa using h
  have bf:=Z4 ae π;have an4:=bf.v;have yU:=bf.γ;have axF:=bf.k;have axE:=bf.b;have Om:=bf.x;have axG:=bf.y;refine⟨d.k,az.at (by rfl),d.v,az.at (by rfl),d.γ,az.at (by rfl),d.b,az.at (by rfl),cw d.x,cw d.y,az.at (by rfl),?_⟩;obtain⟨_,_,_,avX,_,_⟩:=JU ae.1;obtain⟨_,_,_,ty,_,_⟩:=JU ae.2;rw[avX]
  try dsimp only[bj]
  refine bO (bC (by show(0:Int)<=d.x;omega)) (bO (bC (by show d.x<=255;omega)) ?_);refine⟨cw d.x,cw d.y,az.at (by rfl),?_⟩;rw[ty]
  try dsimp only[bj]
  refine bO (bC (by show(0:Int)<=d.y;omega)) (bO (bC (by show d.y<=255;omega)) ?_);rw[VD ⟨an4.1,by omega⟩ ⟨yU.1,by omega⟩,sy,sy,sy,LI (a:=d.k) (by omega) (by omega),LI (a:=d.v*16+d.γ) (by omega) (by omega),LI (a:=d.b) (by omega) (by omega)];rintro af ax rfl rfl;have cm:=μ.alloc (w:=υ) (bg (p7 d)) cG 1 5 rfl;have aA:=θ.alloc υ (.cells (bg (p7 d)).toArray cG);refine φ.mk ⟨some ⟨υ.heap.size,0,none⟩,5,?_,dG.trans aA,?_⟩
  ·unfold Ag;rw[aY π,π];rfl
  ·unfold Ag;rw[aY π];exact cm.lower dG.size
def uv:ao->fC
 |[a,b,c,d,e]=>⟨a,b/16,b%16,c,d,e⟩
 |_=>⟨0,0,0,0,0,0⟩
theorem ZC{xs:ao}(h:Bytes xs):(uv xs).wf:=by
 unfold uv;split
 ·exact⟨h _ (by simp),h _ (by simp)⟩
 ·exact⟨⟨by decide,by decide⟩,⟨by decide,by decide⟩⟩
def uw(xs:ao):aU:=if h4 (uv xs)=0 then(uv xs).cells else mo
theorem amk{xs:ao}(h:xs.length=5):∃a b c d e,xs=[a,b,c,d,e]:=by
 match xs,h with
 |[a,b,c,d,e],_=>exact⟨a,b,c,d,e,rfl⟩
theorem awK:∀z∈mo,z.oneCell'=true:=cells_one
theorem Sy(d:fC):∀z∈d.cells,z.oneCell'=true:=cells_one
theorem aiH{p:J}{c:Nat}{xs:ao}{w:World}(π:a8 w p (bg xs))(ar:xs.length=5)(ω:Bytes xs):
  DZ.C p 5 c w (φ λv w'=>v=.tuple #[.agg (uw xs).toArray,.int .i64 (if h4 (uv xs)=0 then 0 else 2)]/\θ w w'):=by
 apply DZ.ok;unfold DZ.main;rintro ε δ rfl rfl;have ρ:=μ.new (w:=w) mo ft;have ζ:=θ.alloc w (.cells mo.toArray ft);unfold mo at ρ ζ;have eb:w.heap.size<=w.heap.size:=eF _;generalize xy:w.heap.size=ε at ρ eb⊢;generalize w.alloc (.cells #[.int .i64 0,.int .i64 0,.int .i64 0,.int .i64 0,.complex .f64 0 0] ft)=δ at ρ ζ⊢;have apv:=ZC ω;obtain⟨a,b,c2,d,e,rfl⟩:=amk ar;have B0:=(π.ex ζ).ex (θ.drew δ);obtain⟨q,rfl,oo⟩:=B0.one (v:=.int .u8 a) (by rfl);obtain⟨_,aM,cS⟩:=B0.many (j:=1) (v:=.int .u8 b) (by rfl);cases aM;obtain⟨_,aM,fX⟩:=B0.many (j:=2) (v:=.int .u8 c2) (by rfl);cases aM;obtain⟨_,aM,jC⟩:=B0.many (j:=3) (v:=.int .u8 d) (by rfl);cases aM;obtain⟨_,aM,qu⟩:=B0.many (j:=4) (v:=.int .u8 e) (by rfl);cases aM;have aP:qJ a:=ω _ (by simp);have BZ:qJ b:=ω _ (by simp);have rL:qJ c2:=ω _ (by simp);rw[cond_neg (by rfl)];refine bO (by decide) ?_
 try dsimp only[bj]
 refine⟨a,oo,bO (by decide) ?_⟩;refine⟨b,cS,bO (by decide) ?_⟩;refine⟨b,cS,bO (by decide) ?_⟩;refine⟨c2,fX,bO (by decide) ?_⟩;refine⟨d,jC,bO (by decide) ?_⟩;refine⟨e,qu,?_⟩;rintro ι aa rfl rfl;have acW:=ρ.ex (θ.drew δ);have bu:=μ.new (w:=δ.drew) mo ft;have ab:=θ.alloc δ.drew (.cells mo.toArray ft);unfold mo at bu ab;have cc:δ.drew.heap.size≠ε:=by have:=acW.ge rfl;dsimp only at this;omega
 have Ht:w.heap.size<=δ.drew.heap.size:=(ζ.trans (θ.drew δ)).size;generalize δ.drew.heap.size=ι at bu cc Ht⊢;generalize δ.drew.alloc (.cells #[.int .i64 0,.int .i64 0,.int .i64 0,.int .i64 0,.complex .f64 0 0] ft)=aa at bu ab⊢;have n1:=B0.ex ab;have Jy:aa.cell? q=some (.int .u8 a):=by
  have:=n1 0 _ rfl
  rwa[show q.add 0=q from Addr.add_zero' q]at this
 refine⟨rfl,n1 4 _ rfl,n1 3 _ rfl,n1 2 _ rfl,n1 1 _ rfl,n1 1 _ rfl,Jy,?_⟩;rw[atk BZ,ake BZ,b3 (x:=a) (by have:=aP.1;omega) (by have:=aP.2;omega),b3 (x:=c2) (by have:=rL.1;omega) (by have:=rL.2;omega)];refine bu.put (by rfl) cells_one λax cp cm=>?_;have ρ:=(acW.ex ab).aC cp (λx I=>by cases I;exactλe=>cc e.symm);have aA:θ w ax:=(ζ.trans ((θ.drew δ).trans ab)).then cp λi o=>o▸Ht;refine⟨(uv [a,b,c2,d,e]).cells.toArray,rfl,cm.cells,?_⟩;refine κ.use (Bj apv _) ?_;rintro _ aG ⟨rfl,al⟩
 try dsimp only[bH]
 have aid:=aA.trans al;refine bA (λh=>?_) λh=>?_
 ·have π:¬h4 (uv [a,b,c2,d,e])=0:=by simpa using h
  refine(ρ.ex al).put (by rfl) cells_one λbk hK eM=>?_;refine⟨mo.toArray,rfl,eM.cells,φ.mk ⟨?_,aid.then hK λi o=>by omega⟩⟩;unfold uw;rw[aN π,aN π]
 ·have π:h4 (uv [a,b,c2,d,e])=0:=by simpa using h
  refine⟨(uv [a,b,c2,d,e]).cells.toArray,rfl,(cm.ex al).cells,bO (by rfl) ?_⟩;refine(ρ.ex al).put (by rfl) cells_one λbk hK eM=>?_;refine⟨(uv [a,b,c2,d,e]).cells.toArray,rfl,eM.cells,φ.mk ⟨?_,aid.then hK λi o=>by omega⟩⟩;unfold uw;rw[aY π,aY π]
def jK(l:List fC):aU:=(l.map fC.cells).flatten
theorem NI(l:List fC):(jK l).length=l.length*5:=by
 unfold jK
 induction l with
 |nil=>rfl
 |cons d r cq=>simp only[x1,Cv,e9,cq,List.length_cons];show 5+_=_;omega
theorem ak9(l:List fC):∀z∈jK l,z.oneCell'=true:=by intro z aI;obtain⟨r,σ,aI⟩:=List.mem_flatten.1 aI;obtain⟨d,_,rfl⟩:=gM.1 σ;exact Sy d z aI
theorem JO(a b:List fC):jK (a++b)=jK a++jK b:=by simp[jK]
theorem ZM{w:World}{p:J}{l:List fC}(h:a8 w p (jK l)){i:Nat}{d:fC}(o:l[i]?=some d):∃a,p=some a/\aw w (a.add (i*5)) d.cells:=
 a8.row h (λr σ=>by obtain⟨d,_,rfl⟩:=gM.1 σ;rfl) (by omega) (by rw[List.getElem?_map,o];rfl)
theorem alQ(l:List fC):(l.flatMap p7).length=l.length*5:=by
 induction l with
 |nil=>rfl
 |cons d r cq=>rw[zl,e9,cq,List.length_cons];show 5+_=_;omega
theorem Za(x:Int):qJ (x%256):=⟨PK _ (by omega),PA _ (by omega)⟩
def qx(seq num:Int)(l:List fC):ao:=bt.be 4 seq++[num%256,(l.length:Int)%256]++l.flatMap p7
theorem P7(seq num:Int)(l:List fC):(qx seq num l).length=6+l.length*5:=by unfold qx;rw[e9,e9,bt.sI,alQ];rfl
theorem alP{l:List fC}(hw:∀d∈l,d.wf)(bf:∀d∈l,h4 d=0):Bytes (l.flatMap p7):=by intro z aI;obtain⟨d,ae,aI⟩:=pc.1 aI;exact alO (Z4 (hw d ae) (bf d ae)) z aI
theorem anW(seq num:Int)(n:Nat):Bytes (bt.be 4 seq++[num%256,(n:Int)%256]):=by
 refine Bytes.append (bt.BG _ _) ?_;intro z aI;simp only[fE,oj,pa]at aI;rcases aI with rfl|rfl
 ·exact Za _
 ·exact Za _
theorem P6{seq num:Int}{l:List fC}(hw:∀d∈l,d.wf)(bf:∀d∈l,h4 d=0):Bytes (qx seq num l):=(anW _ _ _).append (alP hw bf)
theorem aer(seq num:Int)(p:J)(n c:Nat)(l:List fC)(w:World)(ψ:0<=seq/\seq<4294967296)(π:a8 w p (jK l))(ar:l.length=n)(iv:n<=6)(hw:∀d∈l,d.wf)(bf:∀d∈l,h4 d=0):
  pP.C seq num p n c w (φ λv w'=>∃bU aT,v=.tuple #[.slice bU 64 aT,.int .i64 0]/\μ w' w.heap.size cG 1 bU 64 aT (bg (kJ (qx seq num l)))/\θ w w'):=by
 apply pP.ok;unfold pP.main;rintro ε δ rfl rfl;have ρ:=μ.new (w:=w) [.int .i64 seq] ck;have ζ:=θ.alloc w (.cells [Value.int .i64 seq].toArray ck);generalize w.alloc (.cells #[.int .i64 seq] ck)=δ at ρ ζ⊢;refine κ.use (bt.X8 (some ⟨w.heap.size,0,none⟩) 1 1 [seq] 4 δ ρ.cells rfl (by omega)) ?_;rintro _ υ ⟨aX,br,c2,rfl,ED,az,τ⟩
 try dsimp only[bZ,cC,cD,bj,bH,er]
 have ara:[seq].all (bt.og 4)=true:=by simp only[List.all_cons,List.all_nil,Bool.and_true,bt.og,kH,pJ];exact⟨ψ.1,ψ.2⟩
 have lL:bt.pg 4 [seq]=bt.be 4 seq:=by
  have:=(bt.ID (k:=4) (by omega) (by omega) [seq]).2
  rw[aY ara]at this;have e:((4:Nat):Int)=4:=rfl;rw[e]at this;rw[this];simp
 rw[lL]at az;have aoi:br=4:=by have:=zd (xs:=bt.be 4 seq) az;rw[bt.sI]at this;exact this.symm
 subst aoi;rintro aH aa rfl rfl;rw[sy,sy];have bu:=μ.alloc (w:=υ) (bg [num%256,(n:Int)%256]) cG 1 2 rfl;have ab:=θ.alloc υ (.cells (bg [num%256,(n:Int)%256]).toArray cG);generalize apq:υ.alloc (.cells #[.int .u8 (num%256),.int .u8 ((n:Int)%256)] cG)=aa;have apr:υ.alloc (.cells (bg [num%256,(n:Int)%256]).toArray cG)=aa:=apq;rw[apr]at bu ab;have gV:θ w aa:=ζ.trans (τ.trans ab);refine kT (B:=w.heap.size) ((az.lower ζ.size).ex ab) gV.size (bg [num%256,(n:Int)%256]) bu.cells rfl (CS _) rfl (by omega) (by omega) ?_;intro fD h2 aG cz ea;have al:θ w aG:=gV.then ea λi⟨x,e,o⟩=>by
  have:=((az.lower ζ.size).ge e).1
  omega
 have ig:bg (bt.be 4 seq)++bg [num%256,(n:Int)%256]=bg (bt.be 4 seq++[num%256,(n:Int)%256]):=I3 _ _;have cz:μ aG w.heap.size cG 1 fD (4+2) h2 (bg (bt.be 4 seq++[num%256,(n:Int)%256])):=by rw[<-ig];exact cz
 unfold pP.bd;refine⟨λjo ia je zu zt CM t29 t30 w'=>p=zu/\n=zt/\c=CM/\t29=(n:Int)/\0<=t30/\t30<=n/\ia=6+t30.toNat*5/\μ w' w.heap.size cG 1 jo ia je (bg (bt.be 4 seq++[num%256,(n:Int)%256]++(l.take t30.toNat).flatMap p7))/\θ w w',
  λjo ia je zu zt CM t29 t30 w'=>(n-t30).toNat,⟨rfl,rfl,rfl,rfl,by omega,by omega,rfl,by simpa using cz,al⟩,?_⟩
 rintro jo ia je _ _ _ _ t30 w' ⟨rfl,rfl,rfl,rfl,aF,h1,hlen,aE,I⟩;unfold pP.ε;refine bA (λh=>?_) λh=>?_
 ·have h:=cd h;obtain⟨j,rfl⟩:=eR aF;have χ:j<l.length:=by omega
  obtain⟨d,ae,hm,xA⟩:=bh.oO χ;refine bO (bC aF) (bO (bC h) ?_);obtain⟨a,rfl,lL⟩:=ZM (π.ex I) ae
  try dsimp only[bj]
  refine⟨d.cells.toArray,rfl,lL,?_⟩;rintro aH ba rfl rfl;have bS:=μ.new (w:=w') mo ft;have aJ:=θ.alloc w' (.cells mo.toArray ft);unfold mo at bS aJ;generalize w'.alloc (.cells #[.int .i64 0,.int .i64 0,.int .i64 0,.int .i64 0,.complex .f64 0 0] ft)=ba at bS aJ⊢;refine bO (by rfl) ?_;refine bS.put (by rfl) cells_one λbk hK eM=>?_;have aV:θ w' bk:=aJ.then hK λi o=>o▸eF _;refine⟨d.cells.toArray,rfl,eM.cells,?_⟩;refine κ.use (aiO (hw d hm) _) ?_;rintro _ b9 ⟨iq,mw,rfl,ct,ff⟩
  try dsimp only[bZ,cC,cD,bj,bH,er]
  have Hp:=bf d hm;have ix:Ag d=p7 d:=by unfold Ag;rw[aY Hp]
  rw[ix]at ff⊢;rw[cond_neg (by simp[Hp])];have Xo:=aV.trans ct;refine kT (B:=w.heap.size) (aE.ex Xo) (I.trans Xo).size (bg (p7 d)) ff.cells (by simp[bg]) (CS _) rfl (by have:(p7 d).length=5:=rfl;omega) (by have:(p7 d).length=5:=rfl;omega) ?_;intro eZ h3 ca jm hU;have cv:θ w ca:=(I.trans Xo).then hU λi⟨x,e,o⟩=>by
   have:=(aE.ge e).1
   omega
  have sV:l.take (j+1)=l.take j++[d]:=by rw[PM,ae];rfl
  have iT:IntKind.i64.wrap ((j:Int)+1)=((j+1:Nat):Int):=by rw[b3 (by omega) (by omega)];rfl
  rw[iT];have IZ:((j+1:Nat):Int).toNat=j+1:=rfl;refine⟨⟨rfl,rfl,rfl,rfl,by omega,by omega,?_,?_,cv⟩,by((try dsimp only);omega)⟩
  ·show ia+5=_;omega
  ·show μ ca _ _ _ eZ (ia+5) h3 (bg (_++(l.take (j+1)).flatMap p7));rw[sV,wG,<-mc,<-I3]
   have:[d].flatMap p7=p7 d:=by simp
   rw[this];exact jm
 ·have h:=dh h;have e:t30=n:=by omega
  subst e;have SG:l.take ((n:Nat):Int).toNat=l:=by rw[cP];exact hr (by omega)
  rw[SG]at aE;have NM:bt.be 4 seq++[num%256,(n:Int)%256]++l.flatMap p7=qx seq num l:=by unfold qx;rw[ar]
  rw[NM]at aE;have hle:=P7 seq num l;unfold pP.aZ;refine κ.use (Ra jo ia je _ w' aE.cells (by omega) (P6 hw bf)) ?_;rintro _ υ ⟨q,m,e,rfl,hm,ti,awH⟩
  try dsimp only[bZ,cC,cD,bj,bH,er]
  have gg:um (qx seq num l)=kJ (qx seq num l):=Sa (by omega);have anS:JJ (qx seq num l)=0:=by unfold JJ;rw[aN (by omega)]
  rw[gg]at ti
  have:m=64:=by have:=zd ti;rw[x8 (by omega)]at this;exact this.symm
  subst this;rw[anS];exact φ.mk ⟨q,e,rfl,ti.lower I.size,I.trans awH⟩
def dl(xs:ao)(i:Nat):fC:=uv ((xs.drop (6+5*i)).take 5)
def sS(xs:ao)(m:Nat):List fC:=(List.range m).map (dl xs)
def fA(xs:ao):Int:=xs.getD 5 0
def reads(xs:ao):Option (List fC):=if nC xs=0/\1<=fA xs/\fA xs<=6/\∀d∈sS xs (fA xs).toNat,h4 d=0 then some (sS xs (fA xs).toNat)else none
def qv(seq num:Int)(xs:ao):Option (List fC):=
 match reads xs with
 |some l=>if kJ (qx seq num l)=xs then some l else none
 |none=>none
theorem ZH{xs:ao}(ω:Bytes xs)(m:Nat):∀d∈sS xs m,d.wf:=λd ae=>by obtain⟨i,_,rfl⟩:=gM.1 ae;exact ZC ((ω.drop _).take _)
theorem SA(xs:ao)(m:Nat):(sS xs m).length=m:=by simp[sS]
theorem ZG(xs:ao)(m:Nat):sS xs (m+1)=sS xs m++[dl xs m]:=by simp[sS,u2]
theorem Pj{xs:ao}(h:nC xs=0):xs.length=64/\xV xs=xs.take 60:=by
 unfold nC at h;unfold xV;split at h
 ·rename_i an;rw[aY an];split at h
  ·rename_i π;exact⟨an,by rw[aY π]⟩
  ·cases h
 ·cases h
theorem ali{xs:ao}{i:Nat}(o:i<6):((xs.take 60).drop (6+5*i)).take 5=(xs.drop (6+5*i)).take 5:=by rw[FE,AX,q8 (by omega)]
theorem arC{w:World}{p:J}{c:Nat}{xs:ao}(h:a8 w p (bg xs))(π:xs.length<=c)(i:Nat):a8 w (dA p c i 1) (bg ((xs.drop i).take 5)):=by
 have:=h.slice c i 5 (by rw[rl];exact π)
 unfold bg at this⊢;rw[wF,x2];exact this
theorem Iy(p:J)(c:Nat)(xs:ao)(seq num:Int)(w:World)(π:a8 w p (bg xs))(ar:xs.length=64)(jZ:64<=c)(ω:Bytes xs)(ψ:0<=seq/\seq<4294967296):
  pO.C p 64 c seq num w (φ λv w'=>θ w w'/\∃q m d,v=.tuple #[.slice q m d,.bool (qv seq num xs).isSome]/\∀l,qv seq num xs=some l->l.length=m/\m<=6/\μ w' w.heap.size ft 5 q m d (jK l)):=by
 apply pO.ok;unfold pO.main;refine κ.use (Jn p 64 c xs w π ar jZ ω) ?_;rintro _ δ ⟨ad,aD,c1,rfl,qf,ρ,ζ⟩
 try dsimp only[bZ,cC,cD,bj,bH,er]
 refine bA (λh=>?_) λh=>?_
 ·have h:¬nC xs=0:=by simpa using h
  have e:reads xs=none:=by unfold reads;rw[aN λc=>h c.1]
  exact φ.mk ⟨ζ,none,0,0,by unfold qv;rw[e];rfl,λl an=>by unfold qv at an;rw[e]at an;cases an⟩
 have h:nC xs=0:=by simpa using h
 obtain⟨_,dR⟩:=Pj h;rw[dR]at ρ;have Kt:aD=60:=by have:=zd ρ;rw[gY,ar]at this;exact this.symm
 subst Kt;have rL:60<=c1:=ρ.2.1;have c9:(bg (xs.take 60))[5]?=some (.int .u8 (fA xs)):=by unfold bg fA;rw[List.getElem?_map,List.getElem?_take,aY (by omega),List.getD_eq_getElem?_getD,List.getElem?_eq_getElem (by omega)];rfl
 obtain⟨aq,rfl,CH⟩:=ρ.cells.many c9;refine bO (by decide) ?_
 try dsimp only[bj]
 refine⟨fA xs,CH,?_⟩;refine bA (λh1=>?_) λh1=>?_
 ·have h1:=cd h1;have e:reads xs=none:=by unfold reads;rw[aN λc=>by omega]
  exact φ.mk ⟨ζ,none,0,0,by unfold qv;rw[e];rfl,λl an=>by unfold qv at an;rw[e]at an;cases an⟩
 have h1:=dh h1;refine bO (by decide) ?_;refine⟨fA xs,CH,?_⟩;refine bA (λη=>?_) λη=>?_
 ·have η:=cd η;have e:reads xs=none:=by unfold reads;rw[aN λc=>by omega]
  exact φ.mk ⟨ζ,none,0,0,by unfold qv;rw[e];rfl,λl an=>by unfold qv at an;rw[e]at an;cases an⟩
 have η:=dh η;refine bO (by decide) ?_;refine⟨fA xs,CH,?_⟩;rw[b3 (x:=fA xs) (by omega) (by omega)];obtain⟨m,hm⟩:=eR (show 0<=fA xs by omega);have aov:(fA xs).toNat=m:=by omega
 have aaD:=ζ.size;unfold pO.bd;refine⟨λcj cb cu t1 t2 jo ia je fh fa fq t37 t38 w'=>p=cj/\cb=64/\c=cu/\seq=t1/\num=t2/\jo=some aq/\ia=60/\c1=je/\t37=fA xs/\0<=t38/\t38<=m/\fa=t38.toNat/\(∀d∈sS xs t38.toNat,h4 d=0)/\μ w' w.heap.size ft 5 fh fa fq (jK (sS xs t38.toNat))/\μ w' w.heap.size cG 1 (some aq) 60 c1 (bg (xs.take 60))/\θ w w',
  λcj cb cu t1 t2 jo ia je fh fa fq t37 t38 w'=>(m-t38).toNat,⟨rfl,rfl,rfl,rfl,rfl,rfl,rfl,rfl,rfl,by omega,by omega,rfl,λd ae=>(by cases ae),μ.nil _ _ _ _,ρ,ζ⟩,?_⟩
 rintro _ _ _ _ _ _ _ _ fh fa fq _ t38 w' ⟨rfl,rfl,rfl,rfl,rfl,rfl,rfl,rfl,rfl,aF,hle,hlen,dq,aE,ρ,I⟩;unfold pO.ε;obtain⟨j,rfl⟩:=eR aF;rw[cP]at hlen dq aE;obtain rfl:=hlen.symm;refine bA (λh=>?_) λau=>?_
 ·have h:=cd h;have χ:j<6:=by omega
  have aM:IntKind.i64.wrap (6+IntKind.i64.wrap (5*(j:Int)))=((6+5*j:Nat):Int):=by rw[b3 (x:=5*(j:Int)) (by omega) (by omega),b3 (by omega) (by omega)];omega
  have bz:IntKind.i64.wrap (((6+5*j:Nat):Int)+5)=((11+5*j:Nat):Int):=by rw[b3 (by omega) (by omega)];omega
  rw[aM,bz,cP,cP];refine bO (bC (by omega)) (bO (bC (by omega)) (bO (bC (by omega)) (bO (bC (by omega)) ?_)));have abC:=arC (c:=c1) ρ.cells (by rw[gY,ar];omega) (6+5*j);rw[ali χ]at abC;have ig:11+5*j-(6+5*j)=5:=by omega
  rw[ig];have anx:Bytes ((xs.drop (6+5*j)).take 5):=(ω.drop _).take _;have aoj:((xs.drop (6+5*j)).take 5).length=5:=by rw[gY,kI,ar];omega
  refine κ.use (aiH abC aoj anx) ?_;rintro _ aa ⟨rfl,ab⟩
  try dsimp only[bZ,cC,cD,bj,bH,hz,iG]
  rintro dC aG rfl rfl;have cz:=μ.new (w:=aa) mo ft;have al:=θ.alloc aa (.cells mo.toArray ft);unfold mo at cz al;generalize aa.alloc (.cells #[.int .i64 0,.int .i64 0,.int .i64 0,.int .i64 0,.complex .f64 0 0] ft)=aG at cz al⊢;have n0:(uw ((xs.drop (6+5*j)).take 5)).length=5:=by unfold uw;split<;>rfl
  have amZ:∀y∈uw ((xs.drop (6+5*j)).take 5),y.oneCell'=true:=by unfold uw;split;exact Sy _;exact awK
  refine bO (bC (by rw[fp];exact n0)) ?_;refine cz.put (cs:=uw ((xs.drop (6+5*j)).take 5)) n0 amZ λba dP bS=>?_;have awE:θ aa ba:=al.then dP λi o=>o▸eF _;have aJ:θ w' ba:=ab.trans awE;by_cases ae:h4 (dl xs j)=0
  ·have vX:h4 (uv ((xs.drop (6+5*j)).take 5))=0:=ae;rw[aY vX,cond_neg (by rfl)];refine⟨(uw ((xs.drop (6+5*j)).take 5)).toArray,by rw[fp];exact n0,bS.cells,?_⟩;have TP:Instr.fill (λi=>some (i*5,5)) (madeCells #[(Value.int .i64 0),(Value.int .i64 0),(Value.int .i64 0),(Value.int .i64 0),(Value.complex .f64 0 0)] (1*5)) [(0,(Value.agg (uw ((xs.drop (6+5*j)).take 5)).toArray))]=some (uw ((xs.drop (6+5*j)).take 5)).toArray:=
    NS 5 _ _ (by rw[size_madeCells]) (by rw[fp];exact n0)
   rw[TP]
   try dsimp only[bj]
   rintro iZ bk rfl rfl;have am0:uw ((xs.drop (6+5*j)).take 5)=(dl xs j).cells:=by unfold uw;rw[aY vX];rfl
   rw[am0];have aV:=θ.alloc ba (.cells (dl xs j).cells.toArray ft);have lX:a8 (ba.alloc (.cells (dl xs j).cells.toArray ft)) (some ⟨ba.heap.size,0,none⟩) (dl xs j).cells:=a8.alloc _ _;generalize ba.alloc (.cells (dl xs j).cells.toArray ft)=bk at aV lX⊢;have rp:=aJ.trans aV;refine kT (B:=w.heap.size) (aE.ex rp) (I.trans rp).size (dl xs j).cells lX rfl (Sy _) rfl (by omega) (by omega) ?_;intro eZ h3 ca jm hU;have cv:θ w ca:=(I.trans rp).then hU λi⟨x,e,o⟩=>by
    have:=(aE.ge e).1
    omega
   have r1:μ ca w.heap.size cG 1 (some aq) 60 c1 (bg (xs.take 60)):=
    (ρ.ex rp).cI hU ft (λi⟨x,e,o⟩=>o▸((aE.ex rp).typed e).1) (by decide)
   have iT:IntKind.i64.wrap ((j:Int)+1)=((j+1:Nat):Int):=by rw[b3 (by omega) (by omega)];rfl
   rw[iT];have IZ:((j+1:Nat):Int).toNat=j+1:=rfl;refine⟨⟨rfl,rfl,rfl,rfl,rfl,rfl,rfl,rfl,rfl,by omega,by omega,rfl,?_,?_,r1,cv⟩,by((try dsimp only);omega)⟩
   ·intro d Am;rw[IZ,ZG]at Am;rcases iI.1 Am with Am|Am
    ·exact dq d Am
    ·rw[lp.1 Am];exact ae
   ·rw[IZ,ZG,JO]
    have:jK [dl xs j]=(dl xs j).cells:=by simp[jK]
    rw[this];exact jm
  ·have vX:¬h4 (uv ((xs.drop (6+5*j)).take 5))=0:=ae;rw[aN vX,cond_pos (by rfl)];have e:reads xs=none:=by
    unfold reads;rw[aN λc=>ae (c.2.2.2 _ (gM.2 ⟨j,nF.2 (by omega),rfl⟩))]
   exact φ.mk ⟨I.trans aJ,none,0,0,by unfold qv;rw[e];rfl,λl an=>by unfold qv at an;rw[e]at an;cases an⟩
 ·have au:=dh au;obtain rfl:m=j:=by omega
  have e:reads xs=some (sS xs m):=by unfold reads;rw[aov,aY ⟨‹nC xs=0›,by omega,by omega,dq⟩]
  unfold pO.aZ;refine κ.use (aer seq num fh m fq (sS xs m) w' ψ aE.cells (SA _ _) (by omega) (ZH ω _) dq) ?_;rintro _ υ ⟨q,d,rfl,az,τ⟩
  try dsimp only[bZ,cC,cD,bj,bH,er]
  rw[cond_pos (by rfl)];have Ca:(qx seq num (sS xs m)).length<=60:=by rw[P7,SA];omega
  refine κ.use (XM q 64 d p 64 c _ xs υ az.cells (x8 Ca) (π.ex (I.trans τ)) ar (IH (P6 (ZH ω _) dq)) ω) ?_;rintro _ aa ⟨rfl,ab⟩
  try dsimp only[dH]
  refine φ.mk ⟨I.trans (τ.trans ab),fh,m,fq,?_,?_⟩
  ·unfold qv;rw[e];dsimp only;by_cases ay:kJ (qx seq num (sS xs m))=xs
   ·rw[aY ay,bC ay];rfl
   ·rw[aN ay,iJ ay];rfl
  ·intro l an;unfold qv at an;rw[e]at an;dsimp only at an;split at an
   ·cases an;exact⟨SA _ _,by omega,aE.ex (τ.trans ab)⟩
   ·cases an
def pC(seq:Int)(now:List ao):Nat->Nat->List fC×Nat
 |0,n=>([],n)
 |f+1,n=>match qv seq n (now.getD (24+n) [])with
  |none=>([],n)
  |some l=>(l++(pC seq now f (n+1)).1,(pC seq now f (n+1)).2)
theorem Rs{w:World}{B pd:Nat}{d:bh.dm}{D:a1}(h:bh.hZ w B pd d D)(bL:bh.Good d)(aE:d.off=false)(an:40<=d.now.length)(seq:Int)(ψ:1<=seq/\seq<=1073741824):
  tG.C (some ⟨pd,0,none⟩) seq w (φ λv w'=>∃p c,v=.tuple #[.slice p (pC seq d.now 16 0).1.length c,.int .i64 ((pC seq d.now 16 0).2:Int),.int .i64 0]/\μ w' w.heap.size ft 5 p (pC seq d.now 16 0).1.length c (jK (pC seq d.now 16 0).1)/\θ w w'):=by
 apply tG.ok;unfold tG.main
 try dsimp only[mB,jb]
 rw[iM (show¬seq<1 by omega),iM (show¬seq>1073741824 by omega)];unfold tG.bd
 refine⟨λt0 t1 nJ nk pj t23 w'=>t0=some ⟨pd,0,none⟩/\seq=t1/\0<=t23/\t23<=16/\θ w w'/\∃acc:List fC,acc.length=nk/\nk<=6*t23.toNat/\μ w' w.heap.size ft 5 nJ nk pj (jK acc)/\
   pC seq d.now 16 0=(acc++(pC seq d.now (16-t23.toNat) t23.toNat).1,(pC seq d.now (16-t23.toNat) t23.toNat).2),
  λt0 t1 nJ nk pj t23 w'=>(16-t23).toNat,⟨rfl,rfl,by omega,by omega,θ.refl w,[],rfl,by omega,μ.nil _ _ _ _,rfl⟩,?_⟩
 rintro _ _ nJ nk pj t23 w' ⟨rfl,rfl,aF,h1,I,acc,ik,Uc,own,heq⟩;unfold tG.ε;obtain⟨k,rfl⟩:=eR aF;rw[cP]at heq Uc;refine bA (λhk=>?_) λhk=>?_
 ·have hk:=cd hk;have vO:IntKind.i64.wrap (24+(k:Int))=((24+k:Nat):Int):=by rw[b3 (by omega) (by omega)];omega
  rw[vO];refine κ.use (bh.Bo (h.ex I) bL ((24+k:Nat):Int)) ?_;rintro _ δ ⟨ζ,EJ⟩;have s4:bh.vT d ((24+k:Nat):Int)=0:=by unfold bh.vT;rw[aE,aN (by simp),aN (by omega)]
  rcases EJ with⟨cc,_⟩|⟨_,ad,c1,s,l5,rfl,ρ⟩
  ·exact(cc s4).elim
  rw[cP]at l5
  try dsimp only[bZ,cC,cD,bj,bH,er]
  rw[cond_neg (by rfl)];have ed:bh.kP s:=bL.now s (eS l5);have TT:d.now.getD (24+k) []=s:=by rw[List.getD_eq_getElem?_getD,l5];rfl
  refine κ.use (Iy ad c1 s seq (k:Int) δ ρ.cells ed.1 ρ.2.1 ed.2 ⟨by omega,by omega⟩) ?_;rintro _ aa ⟨ab,q,m,e,rfl,EJ⟩
  try dsimp only[bZ,cC,cD,bj,dH,er]
  have bf:16-k=(16-(k+1))+1:=by omega
  have HG:pC seq d.now (16-k) k=match qv seq k s with
   |none=>([],k)
   |some l=>(l++(pC seq d.now (16-(k+1)) (k+1)).1,(pC seq d.now (16-(k+1)) (k+1)).2):=by rw[bf,pC,TT]
  rw[HG]at heq;cases σ:qv seq k s with
  |none=>
   rw[σ]at heq;rw[cond_pos (by rfl)];dsimp only at heq;rw[pI]at heq;refine φ.mk ⟨nJ,pj,?_,?_,I.trans (ζ.trans ab)⟩
   ·rw[heq];dsimp only;rw[ik]
   ·rw[heq];dsimp only;rw[ik];exact own.ex (ζ.trans ab)
  |some l=>
   rw[σ]at heq;dsimp only at heq;obtain⟨abo,axL,ol⟩:=EJ l σ;rw[cond_neg (by rfl)];have gV:=ζ.trans ab;refine kT (B:=w.heap.size) (own.ex gV) (I.trans gV).size (jK l) ol.cells (by rw[NI,abo]) (ak9 l) rfl (by omega) (by omega) ?_;intro eZ h3 ca jm hU;have cv:θ w ca:=(I.trans gV).then hU λi⟨x,e,o⟩=>by
    have:=(own.ge e).1
    omega
   have iT:IntKind.i64.wrap ((k:Int)+1)=((k+1:Nat):Int):=by rw[b3 (by omega) (by omega)];rfl
   rw[iT];have IZ:((k+1:Nat):Int).toNat=k+1:=rfl;refine⟨⟨rfl,rfl,by omega,by omega,cv,acc++l,by rw[e9,ik,abo],by rw[IZ];omega,by rw[JO];exact jm,?_⟩,by((try dsimp only);omega)⟩;rw[IZ,heq,mc]
 ·have hk:=dh hk;obtain rfl:k=16:=by omega
  have heq:pC seq d.now 16 0=(acc,16):=by rw[heq];simp[pC]
  refine φ.mk ⟨nJ,pj,?_,?_,I⟩
  ·rw[heq];dsimp only;rw[ik];rfl
  ·rw[heq];dsimp only;rw[ik];exact own
theorem Q9(p:J)(n c:Nat)(w:World):Dl.C p n c 6 w (φ λv w'=>∃dN cW,v=.func (.func 184) #[] #[.pointer (some ⟨dN,0,none⟩),.pointer (some ⟨cW,0,none⟩)]/\θ w w'/\μ w' w.heap.size I1 1 (some ⟨dN,0,none⟩) 1 1 [.slice p n c]/\μ w' w.heap.size ck 1 (some ⟨cW,0,none⟩) 1 1 [.int .i64 6]):=by apply Dl.ok;unfold Dl.main;rintro ε δ rfl rfl ι υ rfl rfl;have ρ:=μ.new (w:=w) [.slice p n c] I1;have ζ:=θ.alloc w (.cells [Value.slice p n c].toArray I1);generalize w.alloc (.cells #[.slice p n c] I1)=δ at ρ ζ⊢;have az:=μ.new (w:=δ) [.int .i64 6] ck;have τ:=θ.alloc δ (.cells [Value.int .i64 6].toArray ck);generalize δ.alloc (.cells #[.int .i64 6] ck)=υ at az τ⊢;refine⟨6,az.at (by rfl),?_⟩;rw[iM (by omega)];exact φ.mk ⟨_,_,rfl,ζ.trans τ,ρ.ex τ,az.lower ζ.size⟩
theorem hZ.grown{W bE:World}{B pd C:Nat}{d:bh.dm}{D:a1}(h:bh.hZ W B pd d D)(k:Kp W bE (vx W C)):bh.hZ bE B pd d D:=
 h.aC k λi o ar=>by rcases(h.typed o).1 with t|t|t<;>exact ar.typed t
end Go.Proofs.YtcpdfhkhaekekaaGreat.G.dB
namespace Go.Proofs.YtcpdfhkhaekekaaGreat.G.cr
open Go.bI Go.RowKit
theorem U8{s k q:Int}{R:bW}(ay:uU q)(ke:lV s k R)(aE:∀e∈R,lN e)(dr:R.length=8):∀bm∈iH s k q (e4 k R),Bytes bm:=by
 have eo:=uQ.1 ke.1.1;have OB:=H8 dr ke.1.2.1 k;have HC:=adG (k:=k) aE;generalize e4 k R=t at OB HC⊢;have aaX:fA t.length<=11:=by unfold fA;omega
 have dq:(yS s k q t).Ok:=⟨⟨by have:=ay.1;show 0<=q;omega,by have:=ay.2;show q<_;omega⟩,⟨by show 0<=s;omega,by show s<_;omega⟩,⟨by show 0<=k;omega,by show k<_;omega⟩,by show fA t.length<256;omega,by show t.length<_;omega⟩;intro bm lK;unfold iH at lK;rcases fE.1 lK with rfl|lK
 ·exact IH (aa2 dq t)
 ·unfold r0 at lK;obtain⟨i,o,rfl⟩:=PN.1 lK;rw[CA]at o;have gg:=Nq t (List.range (fA t.length))[i];have axy:dX t.length (List.range (fA t.length))[i]<=52:=by unfold dX;omega
  refine IH (Bytes.append (Bytes.append (bt.BG 4 q) λx I=>?_) ((HC.drop _).take _));simp only[fE,oj,pa]at I;omega
end Go.Proofs.YtcpdfhkhaekekaaGreat.G.cr
namespace Go.Proofs.YtcpdfhkhaekekaaGreat.G.cr
open Go.bI Go.RowKit
open Go.bI Go.RowKit
theorem Lm{x:ao}(h:x.length<=60)(n m:Nat)(axS:n+m<=x.length):(((kJ x).take 60).drop n).take m=(x.drop n).take m:=by rw[P5 h];unfold pad;rw[CB (by omega),pb (by rw[kI];omega)]
theorem JD(q:Int):∃a b c d,bt.be 4 q=[a,b,c,d]:=by
 have h:=bt.sI 4 q
 match ω:bt.be 4 q with
 |[a,b,c,d]=>exact⟨a,b,c,d,rfl⟩
 |[]=>rw[ω]at h;simp at h
 |[_]=>rw[ω]at h;simp at h
 |[_,_]=>rw[ω]at h;simp at h
 |[_,_,_]=>rw[ω]at h;simp at h
 |_::_::_::_::_::_=>rw[ω]at h;simp at h
theorem anJ(H:gI)(t:ao):((nx H t).take 60).take 4=lx:=by
 have h1:=Hr H t
 have:=Lm (x:=rM H t) (by omega) 0 4 (by omega)
 rw[PO,PO]at this;unfold nx;rw[this];rfl
theorem anH(H:gI)(t:ao):dn (nx H t) 10 1=(H.m:Int):=by
 have h1:=Hr H t;have yN:((nx H t).take 60).length=60:=by unfold nx;rw[gY,x8 (by omega)];rfl
 unfold dn;rw[(bt.S9 (by omega) (by omega) (n:=((nx H t).take 60).length) rfl (by omega) (by omega)).1]
 have:=Lm (x:=rM H t) (by omega) 10 1 (by omega)
 unfold nx;have alE:(10:Int).toNat=10:=rfl;have aM:(1:Int).toNat=1:=rfl;rw[alE,aM,this];obtain⟨a,b,c,d,ay⟩:=JD H.q;unfold rM B1 yR l0;rw[ay];simp[lx,bt.num]
theorem ach{q:Int}{i:Nat}{part:ao}(h:part.length<=52):said (AH q i part)=part.length/\partOf (AH q i part)=part:=by
 have an:=OV q i part;obtain⟨a,b,c,d,ay⟩:=JD q;have abK:said (AH q i part)=part.length:=by
  have:=Lm (x:=uP q i part) (by omega) 5 1 (by omega)
  have g:=gN (λl=>l[0]?) this;simp only[List.getElem?_take,List.getElem?_drop]at g;unfold said AH;have e:(kJ (uP q i part)).take 60=pad (uP q i part):=P5 (by omega);rw[e];unfold pad;rw[List.getElem?_append_left (by omega)];unfold uP;rw[ay];simp
 refine⟨abK,?_⟩;unfold partOf;rw[abK,cP];unfold AH;rw[Lm (by omega) 6 part.length (by omega)];unfold uP;rw[ay];simp
theorem chunks{t:ao}:∀m,(List.range m).flatMap (chunk t)=t.take (52*m)
 |0=>by simp
 |m+1=>by
  rw[u2,wG,chunks m];have e:52*(m+1)=52*m+52:=by omega
  rw[e,List.take_add];congr 1;simp only[zl,List.flatMap_nil,pI];unfold chunk dX;by_cases h:52<=t.length-52*m
  ·rw[q8 h]
  ·rw[Nat.min_eq_right (by omega),hr (by rw[kI];exact eF _),hr (by rw[kI];omega)]
theorem R7(t:ao)(j:Nat):(chunk t j).length<=52:=by rw[Nq];unfold dX;omega
theorem acr(q:Int)(t:ao):∀m,(r0 q t (List.range m)).flatMap partOf=(List.range m).flatMap (chunk t)
 |0=>rfl
 |m+1=>by rw[u2,acs,wG,wG,acr q t m];congr 1;simp only[zl,List.flatMap_nil,pI];exact(ach (R7 t m)).2
theorem aqk(q:Int)(t:ao):(r0 q t (List.range (fA t.length))).flatMap partOf=t:=by rw[acr,chunks,hr];unfold fA;omega
theorem aqj{q:Int}{t:ao}{xs:List Nat}:∀bm∈r0 q t xs,said bm<=52:=λbm h=>by unfold r0 at h;obtain⟨i,o,rfl⟩:=PN.1 h;have h:=R7 t xs[i];rw[(ach h).1];omega
abbrev MT:=bW×Int×Int×Int×Int
open Classical in
noncomputable def z1(pgs:List ao):MT:=if Good pgs then(oq pgs,nH pgs,kX pgs,tn pgs,0)else(cw [],0,0,0,11)
theorem YE{pgs:List ao}(h:Good pgs):z1 pgs=(oq pgs,nH pgs,kX pgs,tn pgs,0):=by unfold z1;rw[aY h]
theorem YD{pgs:List ao}(h:¬Good pgs):z1 pgs=(cw [],0,0,0,11):=by unfold z1;rw[aN h]
def ajv(a:MT)(w:World)(v:Value)(w':World):Prop:=∃ps,v=.tuple #[.agg (bN a.1 ps).toArray,.agg (two a.2.1 a.2.2.1).toArray,.int .i64 a.2.2.2.1,.int .i64 a.2.2.2.2]/\fy w' a.1 ps/\θ w w'
theorem ala{pgs:List ao}(ω:∀bm∈pgs,Bytes bm){p:J}{n c:Nat}(ar:n<=9223372036854775807){w:World}(hp:qL w p n c pgs):o1.C p n c w (φ (ajv (z1 pgs) w)):=by
 by_cases bL:Good pgs
 ·rw[YE bL];refine(XK hp ω ar).mono λe w'⟨v,he,I,h⟩=>⟨v,he,?_⟩;rcases h with⟨_,ps,aL,b0⟩|⟨h,_⟩
  ·exact⟨ps,aL,b0,I⟩
  ·exact absurd bL h
 ·rw[YD bL];refine(XK hp ω ar).mono λe w'⟨v,he,I,h⟩=>⟨v,he,?_⟩;rcases h with⟨h,_⟩|⟨_,aL⟩
  ·exact absurd h bL
  ·exact⟨_,aL,fy.zero w',I⟩
theorem aqP{n:Int}(h:0<=n/\n<4294967296):bt.num (bt.be 4 n)=n:=by simp[bt.be,bt.num];omega
theorem TI(H:gI)(t:ao)(a:Nat)(l:Nat)(h1:1<=l)(bV:l<=4)(aP:a+l<=17):dn (nx H t) a l=bt.num (((rM H t).drop a).take l):=by
 have an:=Hr H t;have yN:((nx H t).take 60).length=60:=by unfold nx;rw[gY,x8 (by omega)];rfl
 unfold dn;rw[(bt.S9 (by omega) (by omega) (n:=((nx H t).take 60).length) rfl (by omega) (by omega)).1];unfold nx;rw[cP,cP,Lm (by omega) a l (by omega)]
theorem anK{H:gI}(t:ao)(h:0<=H.q/\H.q<4294967296):dn (nx H t) 4 4=H.q:=by
 have:=TI H t 4 4 (by omega) (by omega) (by omega)
 have ay:=aqP h;obtain⟨a,b,c,d,he⟩:=JD H.q;rw[he]at ay;have e:((rM H t).drop 4).take 4=[a,b,c,d]:=by unfold rM B1 yR l0;rw[he];simp[lx]
 rw[e,ay]at this;exact this
theorem anL(H:gI)(t:ao):dn (nx H t) 8 1=H.s:=by
 have:=TI H t 8 1 (by omega) (by omega) (by omega)
 obtain⟨a,b,c,d,he⟩:=JD H.q;have e:((rM H t).drop 8).take 1=[H.s]:=by unfold rM B1 yR l0;rw[he];simp[lx]
 rw[e]at this;simpa[bt.num]using this
theorem anI(H:gI)(t:ao):dn (nx H t) 9 1=H.k:=by
 have:=TI H t 9 1 (by omega) (by omega) (by omega)
 obtain⟨a,b,c,d,he⟩:=JD H.q;have e:((rM H t).drop 9).take 1=[H.k]:=by unfold rM B1 yR l0;rw[he];simp[lx]
 rw[e]at this;simpa[bt.num]using this
theorem apV{s k q:Int}{R:bW}(ay:uU q)(ke:lV s k R)(aE:∀e∈R,lN e)(dr:R.length=8):
  Good (iH s k q (e4 k R))/\oq (iH s k q (e4 k R))=R/\nH (iH s k q (e4 k R))=s/\kX (iH s k q (e4 k R))=k/\tn (iH s k q (e4 k R))=q:=by
 obtain⟨cS,fX⟩:=asC ke aE dr;have OB:=H8 dr ke.1.2.1 k;have ω:=U8 ay ke aE dr;generalize aO:e4 k R=t at cS fX OB ω⊢;have eo:yQ (iH s k q t)=nx (yS s k q t) t:=rfl;have EN:(iH s k q t).tail=r0 q t (List.range (cr.fA t.length)):=rfl;have es:nH (iH s k q t)=s:=by unfold nH;rw[eo,anL];rfl
 have vP:kX (iH s k q t)=k:=by unfold kX;rw[eo,anI];rfl
 have eq:tn (iH s k q t)=q:=by unfold tn;rw[eo,anK t ⟨by have:=ay.1;show 0<=q;omega,by have:=ay.2;show q<_;omega⟩];rfl
 have JR:dn (nx (yS s k q t) t) 10 1=(cr.fA t.length:Int):=anH _ _;have sV:CP (iH s k q t)=t:=by unfold CP;rw[EN];exact aqk _ _
 have SN:oq (iH s k q t)=R:=by unfold oq;rw[vP,sV];exact fX
 have hlen:=Kg s k q t;have aaX:cr.fA t.length<=11:=by unfold cr.fA;omega
 have yY:∀bm∈iH s k q t,nC bm=0:=λbm h=>by
  unfold iH at h;rcases fE.1 h with rfl|h
  ·exact(adn (by rw[Hr];omega)).1
  ·unfold r0 at h;obtain⟨i,o,rfl⟩:=PN.1 h
   have:=R7 t (List.range (cr.fA t.length))[i]
   exact(adn (by rw[OV];omega)).1
 refine⟨⟨by rw[hlen];omega,by rw[hlen];omega,?_,by rw[eo,JR,hlen];omega,λbm h=>?_,by rw[vP,sV];exact cS,by rw[es,vP,SN];exact ke,by rw[es,vP,eq,SN,aO]⟩,SN,es,vP,eq⟩
 ·rw[eo];have pw:BX (nx (yS s k q t) t):=⟨yY _ (om ..),anJ _ _⟩;have iS:dn (nx (yS s k q t) t) 4 4=q:=eq;unfold mD;rw[bC pw,iS,JR,bC ay.1,bC ay.2,bC (show(cr.fA t.length:Int)<12 by omega)];rfl
 ·unfold Ci;rw[bC (yY bm (V6 h))];rw[EN]at h;rw[bC (aqj bm h)];rfl
end Go.Proofs.YtcpdfhkhaekekaaGreat.G.cr
namespace Go.Proofs.YtcpdfhkhaekekaaGreat.G.cQ
open Go.bI Go.RowKit cr
def wz(d:bh.dm)(at_:Nat):List ao:=match d.now[at_]?with
 |none=>[]
 |some s=>if mD s=true/\(dn s 4 4%2)*12=(at_:Int)then(d.now.drop at_).take (1+(dn s 10 1).toNat)else[]
theorem VP{d:bh.dm}{at_:Nat}{s:ao}(h:d.now[at_]?=some s):wz d at_=if mD s=true/\(dn s 4 4%2)*12=(at_:Int)then(d.now.drop at_).take (1+(dn s 10 1).toNat)else[]:=by unfold wz;rw[h]
theorem arL{d:bh.dm}(bL:bh.Good d)(at_:Nat):∀bm∈wz d at_,Bytes bm:=λbm h=>by
 have key:bm∈d.now:=by
  unfold wz at h;split at h
  ·cases h
  ·split at h
   ·exact Im (wD h)
   ·cases h
 exact(bL.now bm key).2
theorem anP{s:ao}(h:mD s=true):dn s 10 1<12:=by unfold mD at h;simp only[kH,pJ]at h;exact h.2
theorem drop_take{l:List ao}{a j:Nat}{s:ao}(h:l[a+j]?=some s):(l.drop a).take (j+1)=(l.drop a).take j++[s]:=by rw[PM,List.getElem?_drop,h];rfl
structure yp(w:World)(d:bh.dm)(at_ B:Nat)(p:J)(n c j:Nat)(W:World):Prop where
 ex:θ w W
 num:n=j
 row:∃rs,μ W B gU 1 p n c rs/\jG W 0 rs ((d.now.drop at_).take j)
theorem yp.Po{w:World}{d:bh.dm}{at_ B:Nat}{p:J}{n c j:Nat}{W:World}(h:yp w d at_ B p n c j W):qL W p n c ((d.now.drop at_).take j):=by obtain⟨_,_,rs,γ,g⟩:=h;exact g.Po γ
theorem yp.first{w W:World}{d:bh.dm}{at_:Nat}{p:J}{c B:Nat}{s:ao}(I:θ w W)(γ:μ W B cG 1 p 64 c (bg s))(ψ:d.now[at_]?=some s){N:Nat->ai}
  (K:∀b w',w.heap.size<=b->yp w d at_ w.heap.size (some ⟨b,0,none⟩) 1 1 1 w'->N b w'):aR W #[.slice p 64 c] gU N:=by
 rintro b w' rfl rfl;have ρ:=μ.new (w:=W) [.slice p 64 c] gU;have ζ:=θ.alloc W (.cells [Value.slice p 64 c].toArray gU);have hw:=I.size;refine K _ _ hw ⟨I.trans ζ,rfl,[.slice p 64 c],ρ.lower hw,?_⟩;have e:(d.now.drop at_).take 1=[]++[s]:=by
  have:=drop_take (l:=d.now) (a:=at_) (j:=0) (s:=s) ψ
  simpa using this
 rw[e];exact(jG.nil _ _).snoc ((γ.lower (da _)).ex ζ)
theorem yp.next{w W bE:World}{d:bh.dm}{at_:Nat}{p:J}{n c j:Nat}(h:yp w d at_ w.heap.size p n c j W)(I:θ W bE){q:J}{e B:Nat}{s:ao}(γ:μ bE B cG 1 q 64 e (bg s))(ψ:d.now[at_+j]?=some s)(χ:j<=1000){N:J->Nat->ai}
  (K:∀bU aT w',yp w d at_ w.heap.size bU (n+1) aT (j+1) w'->N bU aT w'):
  aR bE #[.slice q 64 e] gU λι dk=>gD dk p n c 1 (a8 dk (some ⟨ι,0,none⟩)) gU 1 24 #[(Value.slice none 0 0)] λbl bJ cH=>N bl bJ cH:=by
 obtain⟨hex,rfl,rs,arq,lK⟩:=h;rintro b w' rfl rfl;have ρ:=μ.new (w:=bE) [.slice q 64 e] gU;have ζ:=θ.alloc bE (.cells [Value.slice q 64 e].toArray gU);generalize bE.alloc (.cells #[.slice q 64 e] gU)=dk at ρ ζ⊢;have rp:=I.trans ζ;have an:=arq.ex rp;have OM:=hex.trans rp;refine kT (B:=w.heap.size) an OM.size [.slice q 64 e] ρ.cells rfl aeD rfl (by omega) (by omega) ?_;intro bl bJ cH r2 s9;have j1:∀i,(∃y,p=some y/\y.block=i)->Typed dk gU i:=λi⟨y,e,o⟩=>o▸(an.typed e).1;refine K bl bJ cH ⟨OM.then s9 λi⟨y,e,o⟩=>by have:=(an.ge e).1;omega,rfl,rs++[.slice q 64 e],r2,?_⟩;rw[drop_take ψ];exact((lK.ex rp).cI s9 gU j1 (by decide)).snoc (((γ.lower (da _)).ex ζ).cI s9 gU j1 (by decide))
theorem RV{q:Int}(h:0<=q/\q<=4294967296)(w:World):F3.C q w (φ λv w'=>v=.int .i64 ((q%2)*12)/\w'=w):=by apply F3.ok;unfold F3.main;refine φ.mk ⟨?_,rfl⟩;rw[Iv h.1,b3 (x:=q%2*12) (by omega) (by omega),b3 (by omega) (by omega),Int.zero_add]
structure Live(w:World)(B pd:Nat)(d:bh.dm)(D:a1):Prop where
 dev:bh.hZ w B pd d D
 e8:bh.Good d
 off:d.off=false
 len:40<=d.now.length
theorem Live.ex{w w':World}{B pd:Nat}{d:bh.dm}{D:a1}(h:Live w B pd d D)(x:θ w w'):Live w' B pd d D:=⟨h.dev.ex x,h.e8,h.off,h.len⟩
theorem Live.get{w:World}{B pd:Nat}{d:bh.dm}{D:a1}(h:Live w B pd d D){i:Int}{i':Nat}(o:i=i')(yN:i'<40):BF.C (some ⟨pd,0,none⟩) i w (φ λv w'=>∃p c s,d.now[i']?=some s/\v=.tuple #[.slice p 64 c,.int .i64 0]/\μ w' w.heap.size cG 1 p 64 c (bg s)/\θ w w'):=by
 subst o;refine(bh.Bo h.dev h.e8 (i':Int)).mono λe w'⟨v,he,I,σ⟩=>⟨v,he,?_⟩;have aF:bh.vT d (i':Int)=0:=by unfold bh.vT;rw[h.off,aN (by decide),aN (by have:=h.len;omega)]
 rcases σ with⟨ar,_⟩|⟨_,p,c,s,ψ,rfl,γ⟩
 ·exact absurd aF ar
 ·exact⟨p,c,s,by simpa using ψ,rfl,γ,I⟩
theorem arA{w:World}{B pd:Nat}{d:bh.dm}{D:a1}(h:Live w B pd d D){at_:Nat}(qU:at_<=12):tw.C (some ⟨pd,0,none⟩) at_ w (φ λv w'=>∃p n c,v=.tuple #[.slice p n c,.int .i64 0]/\qL w' p n c (wz d at_)/\n<=100/\θ w w'):=by
 apply tw.ok;unfold tw.main;refine κ.use (h.get rfl (by omega)) ?_;rintro _ δ ⟨ad,c1,s,ψ,rfl,ρ,ζ⟩
 try dsimp only[bZ,cC,cD,bj,bH,er]
 rw[cond_neg (by rfl)];have l5:=h.e8.now s (eS ψ);refine κ.use (aiz ad 64 c1 s δ ρ.cells l5.1 ρ.2.1 l5.2) ?_;rintro _ aa ⟨rfl,ab⟩;have gV:=ζ.trans ab;have Ha:=VP ψ;have none_:∀{w':World},θ w w'->wz d at_=[]->φ (λv w'=>∃p n c,v=.tuple #[.slice p n c,.int .i64 0]/\qL w' p n c (wz d at_)/\n<=100/\θ w w') (.returned (.tuple #[.slice none 0 0,.int .i64 0])) w':=λI he=>by refine φ.mk ⟨none,0,0,rfl,?_,by omega,I⟩;rw[he];exact⟨rfl,eF _,[],rfl,rfl,λi bm o=>by simp at o⟩
 unfold Sd;cases dq:mD s with
 |false=>
  rw[dq,aN λh=>by cases h.1]at Ha
  try dsimp only[bZ]
  have e:(bt.v64 (if false=true then[dn s 10 1,dn s 4 4,0]else[0,0,11])).toArray=#[.int .i64 0,.int .i64 0,.int .i64 11]:=rfl;rw[e]
  try dsimp only[cC,cD,mY,bj,bH]
  rw[cond_pos (by rfl)];exact none_ gV Ha
 |true=>
  obtain⟨OF,pw⟩:=aa4 dq;have axx:=anP dq;have TE:=aaa l5.2 10;have e:(bt.v64 (if true=true then[dn s 10 1,dn s 4 4,0]else[0,0,11])).toArray=#[.int .i64 (dn s 10 1),.int .i64 (dn s 4 4),.int .i64 0]:=rfl;rw[e]
  try dsimp only[bZ,cC,cD,mY,bj,bH]
  rw[cond_neg (by rfl)];refine κ.use (RV (q:=dn s 4 4) ⟨by have:=OF.1;omega,by have:=OF.2;omega⟩ aa) ?_;rintro _ aG ⟨rfl,ig⟩;obtain rfl:=ig.symm
  try dsimp only[bH]
  refine bA (λcc=>?_) λcc=>?_
  ·have cc:¬(dn s 4 4%2)*12=(at_:Int):=by simpa using cc
   rw[aN λh=>cc h.2]at Ha;exact none_ gV Ha
  have cc:(dn s 4 4%2)*12=(at_:Int):=by simpa using cc
  rw[dq,aY ⟨rfl,cc⟩]at Ha;refine yp.first gV (ρ.ex ab) ψ λε bk eb s4=>?_;unfold tw.bd;refine⟨λt0 t1 fh fa fq t39 t40 W=>t0=some ⟨pd,0,none⟩/\(at_:Int)=t1/\dn s 10 1=t39/\0<=t40/\t40<=dn s 10 1/\yp w d at_ w.heap.size fh fa fq (1+t40.toNat) W,λt0 t1 fh fa fq t39 t40 W=>(dn s 10 1-t40).toNat,⟨rfl,rfl,rfl,by omega,by omega,s4⟩,?_⟩;rintro _ _ fh fa fq _ t40 W ⟨rfl,rfl,rfl,i0,i1,s4⟩;unfold tw.ε;obtain⟨j,rfl⟩:=eR i0;rw[cP]at s4;refine bA (λπ=>?_) λπ=>?_
  ·have π:=cd π;rw[b3 (x:=(at_:Int)+1) (by omega) (by omega),b3 (x:=(at_:Int)+1+j) (by omega) (by omega)];refine κ.use ((h.ex s4.ex).get (i:=(at_:Int)+1+j) (i':=at_+(1+j)) (by omega) (by omega)) ?_;rintro _ b9 ⟨aX,c2,s2,KE,rfl,ff,ct⟩
   try dsimp only[bZ,cC,cD,bj,bH,er]
   rw[cond_neg (by rfl)];refine yp.next s4 ct ff KE (by omega) λbU aT w' oR=>?_;have lh:IntKind.i64.wrap ((j:Int)+1)=((j+1:Nat):Int):=by rw[b3 (by omega) (by omega)];rfl
   rw[lh];exact⟨⟨rfl,rfl,rfl,by omega,by omega,oR⟩,by((try dsimp only);omega)⟩
  ·have π:=dh π;have χ:j=(dn s 10 1).toNat:=by omega
   subst χ;have hp:=s4.Po;rw[<-Ha]at hp;refine φ.mk ⟨fh,fa,fq,rfl,hp,?_,s4.ex⟩
   have:=s4.num
   omega
abbrev Acc:=bW×Int×Int×Int
def RP:Acc:=(cw [],0,0,0)
def Bc(c:Acc)(a:MT):Acc:=if a.2.2.2.2=0/\c.2.2.2<a.2.2.2.1 then(a.1,a.2.1,a.2.2.1,a.2.2.2.1)else c
noncomputable def vH(d:bh.dm):Nat->Acc
 |0=>RP
 |i+1=>Bc (vH d i) (z1 (wz d (12*i)))
structure Kept(w:World)(ε ι:Nat)(c:Acc)(W:World):Prop where
 ex:θ w W
 ayg:w.heap.size<=ε
 ayh:w.heap.size<=ι
 ne:True
 row:∃ps,μ W 0 bX 24 (some ⟨ε,0,none⟩) 1 1 (bN c.1 ps)/\fy W c.1 ps
 wA:μ W 0 b5 2 (some ⟨ι,0,none⟩) 1 1 (two c.2.1 c.2.2.1)
theorem Kept.more{w W bE:World}{ε ι:Nat}{c:Acc}(h:Kept w ε ι c W)(x:θ W bE):Kept w ε ι c bE:=by obtain⟨h1,η,au,_,⟨ps,bV,c9⟩,iv⟩:=h;exact⟨h1.trans x,η,au,trivial,⟨ps,bV.ex x,c9.ex x⟩,iv.ex x⟩
theorem Kept.step{w W:World}{ε ι:Nat}{c:Acc}(h:Kept w ε ι c W){a:MT}{ps:aU}(b0:fy W a.1 ps){t:Int}(aO:t=c.2.2.2){N:Int->ai}
  (K:∀bE k2,k2=(Bc c a).2.2.2->Kept w ε ι (Bc c a) bE->Kp W bE (λi=>i=ε\/i=ι\/W.heap.size<=i)->N k2 bE):
  aR W hA.toArray bX λgb fF=>
  aR fF #[(Value.int .i64 0),(Value.int .i64 0)] b5 λiZ eK=>
  ο (decide ((bN a.1 ps).toArray.size=24)) (
   hG eK (⟨gb,0,none⟩:Addr) (bN a.1 ps)/\∀fY,fY=eK.setCells (⟨gb,0,none⟩:Addr).block (⟨gb,0,none⟩:Addr).off (bN a.1 ps)->
   (ο (decide ((two a.2.1 a.2.2.1).toArray.size=2)) (
     hG fY (⟨iZ,0,none⟩:Addr) (two a.2.1 a.2.2.1)/\∀fb,fb=fY.setCells (⟨iZ,0,none⟩:Addr).block (⟨iZ,0,none⟩:Addr).off (two a.2.1 a.2.2.1)->
     (cond (a.2.2.2.2==0) (
      cond (decide (a.2.2.2.1>t)) (
       ∃(cN:ah),cN.size=24/\aw fb.drew (⟨gb,0,none⟩:Addr) cN.toList/\
       (∃(dU:ah),dU.size=2/\aw fb.drew (⟨iZ,0,none⟩:Addr) dU.toList/\
        (ο (decide (cN.size=24)) (
         hG fb.drew (⟨ε,0,none⟩:Addr) cN.toList/\∀iW,iW=fb.drew.setCells (⟨ε,0,none⟩:Addr).block (⟨ε,0,none⟩:Addr).off cN.toList->
         (ο (decide (dU.size=2)) (
         aw iW (⟨iZ,0,none⟩:Addr) dU.toList/\
         (ο (decide (dU.size=2)) (
         hG iW (⟨ι,0,none⟩:Addr) dU.toList/\∀fT,fT=iW.setCells (⟨ι,0,none⟩:Addr).block (⟨ι,0,none⟩:Addr).off dU.toList->
         N a.2.2.2.1 fT))))))))
       (N t fb))
      (N t fb))))):=by
 subst aO;rintro gb fF rfl rfl iZ eK rfl rfl;rw[GI];have bS:=μ.new (w:=W) hA bX;have oz:=θ.alloc W (.cells hA.toArray bX);have BY:W.heap.size<=W.heap.size:=eF _;generalize axu:W.heap.size=gb at bS BY⊢;have BY:W.heap.size<=gb:=by omega
 generalize W.alloc (.cells hA.toArray bX)=fF at bS oz⊢;have eM:=μ.new (w:=fF) (two 0 0) b5;have oA:=θ.alloc fF (.cells (two 0 0).toArray b5);have Ep:=oz.size;generalize fF.heap.size=iZ at eM Ep⊢;generalize fF.alloc (.cells (two 0 0).toArray b5)=eK at eM oA⊢;have bS:=bS.ex oA;have gg:=b0.at.dX;refine bO (bC (by rw[fp];exact gg)) ?_;have t6:∀i,i=gb->Typed eK bX i:=λi o=>by rw[o];exact(bS.typed rfl).1
 refine bS.put (cs:=bN a.1 ps) gg b0.at.one λfY Cf l9=>?_;have eM:=eM.cI Cf bX t6 (by decide);refine bO (by rfl) ?_;have t7:∀i,i=iZ->Typed fY b5 i:=λi o=>by rw[o];exact(eM.typed rfl).1
 refine eM.put (cs:=two a.2.1 a.2.2.1) (by rfl) nm λfb AB AL=>?_;have l9:=l9.cI AB b5 t7 (by decide);have nN:θ W fb:=((oz.trans oA).then Cf λi o=>by omega).then AB λi o=>by omega
 have aaw:=h.more nN;have c0:¬(a.2.2.2.2=0/\c.2.2.2<a.2.2.2.1)->N c.2.2.2 fb:=λar=>by
  have e:Bc c a=c:=by unfold Bc;rw[aN ar]
  refine K fb _ (by rw[e]) (by rw[e];exact aaw) (nN.mono λi _ h=>h.elim)
 refine bA (λhe=>?_) λhe=>?_
 ·have he:a.2.2.2.2=0:=by simpa using he
  refine bA (λay=>?_) λay=>?_
  ·have ay:c.2.2.2<a.2.2.2.1:=by simpa using ay
   have e:Bc c a=(a.1,a.2.1,a.2.2.1,a.2.2.2.1):=by unfold Bc;rw[aY ⟨he,ay⟩]
   have d:=θ.drew fb;obtain⟨I,bd,fm,_,⟨qs,g1,g2⟩,g3⟩:=aaw.more d;have abQ:=(b0.ex nN).ex d;have aqS:=l9.ex d;have acY:=AL.ex d;refine⟨(bN a.1 ps).toArray,by rw[fp];exact gg,aqS.cells,(two a.2.1 a.2.2.1).toArray,rfl,acY.cells,bO (bC (by rw[fp];exact gg)) ?_⟩;have t1:∀i,i=ε->Typed fb.drew bX i:=λi o=>by rw[o];exact(g1.typed rfl).1
   refine g1.put (cs:=bN a.1 ps) gg abQ.at.one λiW EU za=>?_;have aqT:=acY.cI EU bX t1 (by decide);have g3:=g3.cI EU bX t1 (by decide);refine bO (by rfl) ⟨aqT.cells,bO (by rfl) ?_⟩;have t2:∀i,i=ι->Typed iW b5 i:=λi o=>by rw[o];exact(g3.typed rfl).1
   refine g3.put (cs:=two a.2.1 a.2.2.1) (by rfl) nm λfT wh Co=>?_;refine K fT _ (by rw[e]) ?_ ?_
   ·rw[e];exact⟨(I.then EU λi o=>by omega).then wh λi o=>by omega,bd,fm,trivial,⟨ps,za.cI wh b5 t2 (by decide),(abQ.cI EU bX t1 (by decide)).cI wh b5 t2 (by decide)⟩,Co⟩
   ·refine Kp.trans ((nN.trans d).aC _) (Kp.trans EU wh (U:=λi=>i=ε\/i=ι\/W.heap.size<=i) (λi _ o=>.inl o) λi _ o=>.inr (.inl o)) (λ_ _ h=>h) λ_ _ h=>h
  ·have ay:¬c.2.2.2<a.2.2.2.1:=by simpa using ay
   exact c0 λh=>ay h.2
 ·have he:¬a.2.2.2.2=0:=by simpa using he
  exact c0 λh=>he h.1
def X0(w:World)(pd ε ι:Nat)(d:bh.dm)(t0:J)(t2 t3:Nat)(t4 t17:Int)(W:World):Prop:=
 t0=some ⟨pd,0,none⟩/\ε=t2/\ι=t3/\0<=t17/\t17<=2/\t4=(vH d t17.toNat).2.2.2/\Kept w ε ι (vH d t17.toNat) W
def Rr(c:Acc)(w:World)(v:Value)(w':World):Prop:=
 (∃ps,v=.tuple #[.agg (bN c.1 ps).toArray,.agg (two c.2.1 c.2.2.1).toArray,.int .i64 c.2.2.2,.int .i64 (if c.2.2.2=0 then 11 else 0)]/\fy w' c.1 ps)/\θ w w'
theorem Kept.out{w W:World}{ε ι:Nat}{c:Acc}(h:Kept w ε ι c W){N:ah->ah->ai}(K:∀ps w',θ w w'->fy w' c.1 ps->N (bN c.1 ps).toArray (two c.2.1 c.2.2.1).toArray w'):
  ∃(kp:ah),kp.size=24/\aw W.drew (⟨ε,0,none⟩:Addr) kp.toList/\
  (∃(j6:ah),j6.size=2/\aw W.drew (⟨ι,0,none⟩:Addr) j6.toList/\
   (ο (decide (kp.size=24)) (
    hG W.drew (⟨ε,0,none⟩:Addr) kp.toList/\∀fY,fY=W.drew.setCells (⟨ε,0,none⟩:Addr).block (⟨ε,0,none⟩:Addr).off kp.toList->
    (ο (decide (j6.size=2)) (
     aw fY (⟨ι,0,none⟩:Addr) j6.toList/\
     (ο (decide (j6.size=2)) (
      hG fY (⟨ι,0,none⟩:Addr) j6.toList/\∀fb,fb=fY.setCells (⟨ι,0,none⟩:Addr).block (⟨ι,0,none⟩:Addr).off j6.toList->
      (∃(my:ah),my.size=24/\aw fb (⟨ε,0,none⟩:Addr) my.toList/\
       (∃(mz:ah),mz.size=2/\aw fb (⟨ι,0,none⟩:Addr) mz.toList/\
        N my mz fb))))))))):=by
 obtain⟨I,bd,fm,_,⟨ps,g1,g2⟩,g3⟩:=h.more (θ.drew W);have gg:=g2.at.dX;refine⟨(bN c.1 ps).toArray,by rw[fp];exact gg,g1.cells,(two c.2.1 c.2.2.1).toArray,rfl,g3.cells,bO (bC (by rw[fp];exact gg)) ?_⟩;have t1:∀i,i=ε->Typed W.drew bX i:=λi o=>by rw[o];exact(g1.typed rfl).1
 refine g1.put (cs:=bN c.1 ps) gg g2.at.one λaa b7 bu=>?_;have xr:=g3.cI b7 bX t1 (by decide);refine bO (by rfl) ⟨xr.cells,bO (by rfl) ?_⟩;have t2:∀i,i=ι->Typed aa b5 i:=λi o=>by rw[o];exact(xr.typed rfl).1
 refine xr.put (cs:=two c.2.1 c.2.2.1) (by rfl) nm λax cp cm=>?_;exact⟨(bN c.1 ps).toArray,by rw[fp];exact gg,(bu.cI cp b5 t2 (by decide)).cells,(two c.2.1 c.2.2.1).toArray,rfl,cm.cells,K ps ax ((I.then b7 λi o=>by omega).then cp λi o=>by omega) ((g2.cI b7 bX t1 (by decide)).cI cp b5 t2 (by decide))⟩
theorem Kept.first{w:World}{N:Nat->Nat->ai}(K:∀ε ι W,w.heap.size<=ε->Kept w ε ι RP W->N ε ι W):aR w hA.toArray bX λε δ=>aR δ #[(Value.int .i64 0),(Value.int .i64 0)] b5 λι υ=>N ε ι υ:=by
 rintro ε δ rfl rfl ι υ rfl rfl;rw[GI];have ρ:=(μ.new (w:=w) hA bX).lower (da _);have ζ:=θ.alloc w (.cells hA.toArray bX);have eb:w.heap.size<=w.heap.size:=eF _;generalize Tu:w.heap.size=ε at ρ eb⊢;have eb:w.heap.size<=ε:=by omega
 generalize w.alloc (.cells hA.toArray bX)=δ at ρ ζ⊢;have az:=(μ.new (w:=δ) (two 0 0) b5).lower (da _);have τ:=θ.alloc δ (.cells (two 0 0).toArray b5);have ee:w.heap.size<=δ.heap.size:=ζ.size;generalize δ.heap.size=ι at az ee⊢;generalize δ.alloc (.cells (two 0 0).toArray b5)=υ at az τ⊢;exact K ε ι υ (by omega) ⟨ζ.trans τ,eb,ee,trivial,⟨_,ρ.ex τ,fy.zero _⟩,az⟩
theorem Rs{w:World}{B pd:Nat}{d:bh.dm}{D:a1}(h:Live w B pd d D):ph.C (some ⟨pd,0,none⟩) w (φ (Rr (vH d 2) w)):=by
 apply ph.ok;unfold ph.main;refine Kept.first (N:=λε ι W=>cond _ _ (ph.bd _ ε ι 0 0 W _)) λε ι υ _ hk=>?_;rw[cond_neg (by rfl)];unfold ph.bd;refine⟨X0 w pd ε ι d,λt0 t2 t3 t4 t17 W=>(2-t17).toNat,⟨rfl,rfl,rfl,by omega,by omega,rfl,hk⟩,?_⟩;clear hk;rintro _ _ _ _ t17 W ⟨rfl,rfl,rfl,i0,i1,rfl,hk⟩;unfold ph.ε;obtain⟨i,rfl⟩:=eR i0;rw[cP]at hk⊢;refine bA (λπ=>?_) λπ=>?_
 ·have π:=cd π;refine κ.use (RV (q:=(i:Int)) ⟨by omega,by omega⟩ W) ?_;rintro _ aG ⟨rfl,ig⟩;obtain rfl:=ig.symm
  try dsimp only[bH]
  have D3:(i:Int)%2*12=((12*i:Nat):Int):=by omega
  rw[D3];refine κ.use (arA (h.ex hk.ex) (at_:=12*i) (by omega)) ?_;rintro _ bk ⟨p,n,c,rfl,hp,ar,aV⟩
  try dsimp only[bZ,cC,cD,bj,bH,er]
  rw[cond_neg (by rfl)];refine κ.use (ala (arL h.e8 _) (by omega) hp) ?_;rintro _ cH ⟨ps,rfl,b0,fu⟩
  try dsimp only[bZ,cC,cD,mY,S5,bj,bH,hz,iG]
  refine Kept.step (hk.more (aV.trans fu)) b0 rfl (N:=λk2 bE=>X0 w pd ε ι d (some ⟨pd,0,none⟩) ε ι k2 (IntKind.i64.wrap ((i:Int)+1)) bE/\(2-IntKind.i64.wrap ((i:Int)+1)).toNat<(2-(i:Int)).toNat) λbE k2 aO n2 _=>?_;have lh:IntKind.i64.wrap ((i:Int)+1)=((i+1:Nat):Int):=by rw[b3 (by omega) (by omega)];rfl
  rw[lh];exact⟨⟨rfl,rfl,rfl,by omega,by omega,aO,n2⟩,by((try dsimp only);omega)⟩
 ·have π:=dh π;obtain rfl:i=2:=by omega
  unfold ph.aZ;refine bA (λaF=>?_) λaF=>?_
  ·have aF:(vH d 2).2.2.2=0:=by simpa using aF
   refine hk.out (N:=λa b W=>φ (Rr (vH d 2) w) (.returned (.tuple #[.agg a,.agg b,.int .i64 0,.int .i64 11])) W) λps w' x st=>φ.mk ⟨⟨ps,?_,st⟩,x⟩;rw[aF,aY rfl]
  ·have aF:¬(vH d 2).2.2.2=0:=by simpa using aF
   refine hk.out (N:=λa b W=>φ (Rr (vH d 2) w) (.returned (.tuple #[.agg a,.agg b,.int .i64 (vH d 2).2.2.2,.int .i64 0])) W) λps w' x st=>φ.mk ⟨⟨ps,?_,st⟩,x⟩;rw[aN aF]
open Tryz
def kV(d:bh.dm):bh.dm:={d with sure:=d.now,loose:=[]}
def mM(d:bh.dm)(i:Int):List ao->bh.dm
 |[]=>d
 |x::r=>mM (bh.dj d i x) (i+1) r
def p2(q:Int):Int:=q%2*12
def u5(d:bh.dm)(s k q:Int)(R:bW):bh.dm:=
 kV (bh.dj (kV (mM d (p2 q+1) (iH s k q (e4 k R)).tail)) (p2 q) ((iH s k q (e4 k R)).headD []))
theorem VX(x:ao):∀(l:List ao)(d:bh.dm)(i:Int),mM d i (l++[x])=bh.dj (mM d i l) (i+l.length) x
 |[],d,i=>by show bh.dj d i x=_;simp[mM]
 |y::l,d,i=>by show mM (bh.dj d i y) (i+1) (l++[x])=bh.dj (mM (bh.dj d i y) (i+1) l) _ x;rw[VX x l];congr 1;simp only[List.length_cons];omega
structure hi(w0:World)(dY:a1)(w:World)(B pd:Nat)(d:bh.dm)(D:a1)(k:Nat):Prop where
 dev:bh.hZ w B pd d D
 e8:bh.Good d
 off:d.off=false
 after:d.after=-1
 len:40<=d.now.length
 fZ:d.loose.length<=k
 low:B<=w0.heap.size
 aC:Kp w0 w dY
 sub:∀i,D i->dY i\/w0.heap.size<=i
theorem hi.start{w:World}{B pd:Nat}{d:bh.dm}{D:a1}{k:Nat}(h:bh.hZ w B pd d D)(bL:bh.Good d)(aE:d.off=false)(aP:d.after=-1)(an:40<=d.now.length)(bf:d.loose.length<=k)(dR:B<=w.heap.size):hi w D w B pd d D k:=
 ⟨h,bL,aE,aP,an,bf,dR,Kp.refl _ _,λi h=>.inl h⟩
theorem hi.ex{w0 w w':World}{dY:a1}{B pd:Nat}{d:bh.dm}{D:a1}{k:Nat}(h:hi w0 dY w B pd d D k)(x:θ w w'):hi w0 dY w' B pd d D k:=
 ⟨h.dev.ex x,h.e8,h.off,h.after,h.len,h.fZ,h.low,h.aC.gr (x.aC _),h.sub⟩
theorem hi.done{w0 w:World}{dY:a1}{B pd:Nat}{d:bh.dm}{D:a1}{k:Nat}(h:hi w0 dY w B pd d D k):bh.C1 w0 B pd d dY w:=⟨D,h.dev,h.e8,h.aC,h.sub⟩
theorem hi.live{w0 w:World}{dY:a1}{B pd:Nat}{d:bh.dm}{D:a1}{k:Nat}(h:hi w0 dY w B pd d D k):Live w B pd d D:=⟨h.dev,h.e8,h.off,h.len⟩
theorem hi.c0{w0 w w':World}{dY:a1}{B pd:Nat}{d:bh.dm}{D:a1}{k:Nat}(h:hi w0 dY w B pd d D k)(aC:Kp w w' D){B':Nat}{e:TypeId}{sz:Nat}{p:J}{n c:Nat}{xs:aU}(γ:μ w B' e sz p n c xs)(h1:e≠QD)(η:e≠QE)(au:e≠QF):μ w' B' e sz p n c xs:=
 bh.Le h.dev aC γ h1 η au
theorem hi.RQ{w0 w w':World}{dY:a1}{B pd:Nat}{d d':bh.dm}{D:a1}{k k':Nat}(h:hi w0 dY w B pd d D k)(a:bh.C1 w B pd d' D w')(aE:d'.off=d.off)(aP:d'.after=d.after)(an:d'.now.length=d.now.length)(bf:d'.loose.length<=k'):∃bb,hi w0 dY w' B pd d' bb k'/\Kp w w' D:=by
 obtain⟨bb,h1,η,au,bV⟩:=a;refine⟨bb,⟨h1,η,aE.trans h.off,aP.trans h.after,by rw[an];exact h.len,bf,h.low,Kp.trans h.aC au (λ_ _ h=>h) λi o ae=>?_,λi o=>?_⟩,au⟩
 ·rcases h.sub i ae with h|h
  ·exact h
  ·omega
 ·rcases bV i o with eX|eX
  ·exact h.sub i eX
  ·exact .inr (fo h.aC.size eX)
theorem hi.put{w0 w:World}{dY:a1}{B pd:Nat}{d:bh.dm}{D:a1}{k:Nat}(h:hi w0 dY w B pd d D k)(hk:k<=90000000){i:Int}(o:0<=i/\i<(d.now.length:Int)){p:J}{c:Nat}{s:ao}(π:bh.np w D p (bg s))(ψ:bh.kP s){N:Value->ai}{X:List PanicEntry->ai}
  (K:∀w' bb,hi w0 dY w' B pd (bh.dj d i s) bb (k+1)->Kp w w' D->N (.int .i64 0) w'):
  aR w #[.int .i64 i,.slice p 64 c] CR λε aa=>κ prog 63 #[.pointer (some ⟨pd,0,none⟩),.slice (some ⟨ε,0,none⟩) 1 1] aa N X:=by
 rintro b δ rfl rfl;have γ:=μ.new (w:=w) [.int .i64 i,.slice p 64 c] CR;have x:=θ.alloc w (.cells [Value.int .i64 i,.slice p 64 c].toArray CR);generalize w.heap.size=b at γ⊢;generalize w.alloc (.cells #[.int .i64 i,.slice p 64 c] CR)=δ at γ x⊢;have h1:=h.ex x;refine κ.use (bh.Jp h1.dev h1.e8 (fo h1.low h1.aC.size) (ws:=[⟨i,s,p,64,c⟩]) rfl (bh.np.Cp h1.dev γ (by decide) (by decide) (by decide)) (λew l8=>by simp only[lp]at l8;subst l8;exact⟨π.step (x.aC _) λi _ h=>h,ψ.1,ψ.2⟩) (by omega) (by have:=h1.fZ;omega)) ?_
 have uH:bh.zT d ([(⟨i,s,p,64,c⟩:bh.h0)].map bh.h0.plain)=(bh.dj d i s,0):=bh.ar8 h1.after h1.off o ψ.1;rw[uH];rintro _ υ ⟨rfl,aP⟩;obtain⟨bb,b1,oZ⟩:=h1.RQ aP rfl rfl jB (k':=k+1) (by show(d.loose++[(i,s)]).length<=k+1;rw[e9];have:=h.fZ;simp only[AU];omega);exact K υ bb b1 (Kp.trans (x.aC D) oZ (λ_ _ h=>h) λ_ _ h=>h)
theorem hi.flush{w0 w:World}{dY:a1}{B pd:Nat}{d:bh.dm}{D:a1}{k:Nat}(h:hi w0 dY w B pd d D k){N:Value->ai}{X:List PanicEntry->ai}
  (K:∀w' bb,hi w0 dY w' B pd (kV d) bb 0->Kp w w' D->N (.int .i64 0) w'):
  κ prog 57 #[.pointer (some ⟨pd,0,none⟩)] w N X:=by
 refine κ.use (bh.aiT h.dev h.e8) ?_;rw[bh.amo h.after h.off];rintro _ υ ⟨rfl,aP⟩;obtain⟨bb,b1,oZ⟩:=h.RQ aP rfl rfl rfl (k':=0) (eF _);exact K υ bb b1 oZ
theorem hi.adC{w0 w w':World}{dY:a1}{B pd:Nat}{d:bh.dm}{D:a1}{k:Nat}(h:hi w0 dY w B pd d D k)(aC:Kp w w' D){B':Nat}{ps:aU}{pgs:List ao}(g:jG w B' ps pgs):jG w' B' ps pgs:=
 g.c0 λγ=>h.c0 aC γ (by decide) (by decide) (by decide)
theorem YI(q:Int):0<=p2 q/\p2 q<=12:=by unfold p2;omega
theorem X9{w0 w:World}{dY:a1}{B pd:Nat}{d:bh.dm}{D:a1}{xK:Nat}(h:hi w0 dY w B pd d D xK)(Hw:xK<=1000000){R:bW}{qs:aU}(b0:ie w R qs){s k q:Int}(ay:uU q)(bf:lV s k R):
  pL.C (some ⟨pd,0,none⟩) (bN R qs).toArray s k q w (φ λv w'=>v=.int .i64 0/\∃bb,hi w0 dY w' B pd (u5 d s k q R) bb 0):=by
 have dr:=b0.len;have l5:∀bm∈iH s k q (e4 k R),bh.kP bm:=λbm h=>⟨U7 bm h,U8 ay bf b0.ok dr bm h⟩;have hlen:=Kg s k q (e4 k R);have TD:fA (e4 k R).length<=11:=by have:=H8 dr bf.1.2.1 k;unfold fA;omega
 have Ka:=YI q;apply pL.ok;unfold pL.main;rintro ε δ eb rfl;have ρ:=μ.new (w:=w) (bN R qs) bX;rw[<-eb,b0.dX]at ρ;have ζ:=θ.alloc w (.cells (bN R qs).toArray bX);generalize w.alloc (.cells (bN R qs).toArray bX)=δ at ρ ζ⊢;rintro ι υ ee rfl;have az:=μ.new (w:=δ) (two s k) b5;rw[<-ee]at az;have τ:=θ.alloc δ (.cells (two s k).toArray b5);rw[GI];generalize δ.alloc (.cells (two s k).toArray b5)=υ at az τ⊢;have fM:=ζ.trans τ;rw[cond_neg (by rfl)];refine⟨(bN R qs).toArray,by simp[b0.dX],(ρ.ex τ).cells,(two s k).toArray,rfl,az.cells,?_⟩;refine κ.use (XL (b0.ex fM) s k q) ?_;rintro _ aa ⟨ab,σ⟩;obtain⟨_,_,p,n,c,ps,rfl,ql,lK⟩:=σ.resolve_right λh=>h.1 ⟨ay,bf⟩
 try dsimp only[bZ,cC,cD,bj,bH,er]
 rw[cond_neg (by rfl)];have au:=h.ex (fM.trans ab);refine κ.use (RV (q:=q) (by have:=ay.1;have:=ay.2;omega) aa) ?_;rintro _ aG ⟨rfl,ig⟩;obtain rfl:=ig.symm
 try dsimp only[bH]
 rw[show q%2*12=p2 q from rfl];generalize lZ:iH s k q (e4 k R)=L at l5 hlen lK;have ar:n=L.length:=by have h1:=ql.1;have η:=lK.len;omega
 have aoX:u5 d s k q R=kV (bh.dj (kV (mM d (p2 q+1) L.tail)) (p2 q) (L.headD [])):=by unfold u5;rw[lZ]
 clear ρ az;refine aW (by omega) ?_;have qf:1<=n:=by omega
 obtain⟨bp,rfl⟩:∃b,p=some ⟨b,0,none⟩:=by
  obtain⟨_,g1,⟨_,g2⟩|⟨b,_,_,g2,_⟩⟩:=ql
  ·omega
  ·exact⟨b,g2⟩
 unfold pL.bd;refine⟨λt0 CO CN Gy t11 Ql Qk WH t33 t34 W=>t0=some ⟨pd,0,none⟩/\some ⟨bp,0,none⟩=CO/\n=CN/\c=Gy/\p2 q=t11/\dA (some ⟨bp,0,none⟩) c 1 1=Ql/\n-1=Qk/\(((n-1:Nat):Nat):Int)=t33/\0<=t34/\t34<=(n-1:Nat)/\μ W υ.heap.size gU 1 (some ⟨bp,0,none⟩) n c ps/\jG W υ.heap.size ps L/\∃bb,hi w0 dY W B pd (mM d (p2 q+1) (L.tail.take t34.toNat)) bb (xK+t34.toNat),
  λ_ _ _ _ _ _ _ _ _ t34 _=>((n-1:Nat)-t34).toNat,⟨rfl,rfl,rfl,rfl,rfl,rfl,rfl,rfl,by omega,by omega,ql,lK,D,au⟩,?_⟩
 clear ql lK au;rintro _ _ _ _ _ _ _ WH _ t34 W ⟨rfl,rfl,rfl,rfl,rfl,rfl,rfl,rfl,aF,h1,ql,lK,bb,aL⟩;unfold pL.ε;obtain⟨j,rfl⟩:=eR aF;rw[cP]at aL;have B8:(mM d (p2 q+1) (L.tail.take j)).now.length=(mM d (p2 q+1) (L.tail.take j)).now.length:=rfl;have uC:=aL.len;refine bA (λχ=>?_) λχ=>?_
 ·have χ:=cd χ;have e3:j<L.tail.length:=by rw[FG];omega
  have mZ:L[j+1]?=some L.tail[j]:=by rw[<-List.getElem?_eq_getElem e3,List.getElem?_tail]
  obtain⟨asu,asq,alV,amB⟩:=lK.row (j+1) _ mZ;refine aW (by omega) (aW (by omega) ?_);have Ca:dA (some (⟨bp,0,none⟩:Addr)) c 1 1=some ⟨bp,1,none⟩:=by unfold dA;rw[aN (by have:=ql.2.1;omega),eG,jd,dF]
  rw[Ca]
  try dsimp only[bj]
  have NL:(⟨bp,1,none⟩:Addr).add (j*1)=⟨bp,j+1,none⟩:=by rw[<-dF bp 1,add_add,dF,eG,Nat.add_comm]
  rw[cP,NL];refine⟨asu,64,asq,ql.at alV,?_⟩;rw[b3 (x:=p2 q+1) (by omega) (by omega),b3 (x:=p2 q+1+(j:Int)) (by omega) (by omega)];refine aL.put (by omega) (by omega) (bh.np.Cp aL.dev amB (by decide) (by decide) (by decide)) (l5 _ (eS mZ)) λw' aiC n9 aC=>?_
  try dsimp only[bH]
  rw[cond_neg (by rfl),b3 (x:=(j:Int)+1) (by omega) (by omega)];have aM:((j:Int)+1).toNat=j+1:=by omega
  refine⟨⟨by trivial,by trivial,by trivial,by trivial,by trivial,by first|exact Ca.symm|exact Ca|trivial,by trivial,by trivial,by omega,by omega,aL.c0 aC ql (by decide) (by decide) (by decide),aL.adC aC lK,aiC,?_⟩,by((try dsimp only);omega)⟩;rw[aM];have sV:L.tail.take (j+1)=L.tail.take j++[L.tail[j]]:=lq e3;rw[sV,VX,gY,q8 (by omega)];exact n9
 ·have χ:=dh χ;obtain rfl:j=n-1:=by omega
  have dM:L.tail.take (n-1)=L.tail:=hr (by rw[FG];omega);rw[dM]at aL;unfold pL.aZ;refine aL.flush λdk Re UC ab9=>?_
  try dsimp only[bj,bH]
  rw[cond_neg (by rfl)];have aq3:=aL.c0 ab9 ql (by decide) (by decide) (by decide);have g10:=aL.adC ab9 lK;refine aW (by omega) ?_;obtain⟨XX,awZ,Tm⟩:∃a l,L=a::l:=by cases π:L with|nil=>rw[π]at hlen;simp at hlen;omega|cons a l=>exact⟨a,l,rfl⟩
  have aau:L[0]?=some XX:=by rw[Tm];rfl
  obtain⟨dN,fI,hI,g0⟩:=g10.row 0 XX aau;refine⟨dN,64,fI,aq3.at (j:=0) hI,?_⟩;refine UC.put (by omega) (by have:=UC.len;omega) (bh.np.Cp UC.dev g0 (by decide) (by decide) (by decide)) (l5 _ (eS aau)) λcn awP apk ayd=>?_
  try dsimp only[bH]
  rw[cond_neg (by rfl)];refine apk.flush λep Rf abT aye=>?_
  try dsimp only[bH]
  refine φ.mk ⟨rfl,Rf,?_⟩;rw[aoX,Tm];rw[Tm]at abT;exact abT
open dB
def j9(n:Nat):Nat:=(n+5)/6
def mx(n j:Nat):Nat:=min 6 (n-6*j)
def sN(l:List fC)(j:Nat):List fC:=(l.drop (6*j)).take 6
def Gc(d:bh.dm)(q:Int)(u:Nat)(l:List fC)(xs:List Nat):bh.dm:=
 xs.zipIdx.foldl (λd x=>bh.dj d ((24+(u+x.2):Nat):Int) (kJ (qx q ((u+x.2:Nat):Int) (sN l x.1)))) d
theorem aeL(d:bh.dm)(q:Int)(u:Nat)(l:List fC)(xs:List Nat)(x:Nat):Gc d q u l (xs++[x])=bh.dj (Gc d q u l xs) ((24+(u+xs.length):Nat):Int) (kJ (qx q ((u+xs.length:Nat):Int) (sN l x))):=by unfold Gc;rw[List.zipIdx_append,List.foldl_append];simp
def CJ(d:bh.dm)(q:Int)(u:Nat)(l:List fC):bh.dm:=Gc d q u l (List.range (j9 l.length))
theorem R8{n j:Nat}(h:j<j9 n):0<mx n j/\6*j+mx n j<=n/\mx n j<=6:=by unfold j9 at h;unfold mx;omega
theorem aqg{n j:Nat}(h:6*j<n):j<j9 n:=by unfold j9;omega
theorem arG{n j:Nat}(h:n<=6*j):j9 n<=j:=by unfold j9;omega
theorem R6(l:List fC)(j:Nat):(sN l j).length=mx l.length j:=by unfold sN mx;rw[gY,kI]
theorem JI{l:List fC}{j:Nat}{d:fC}(h:d∈sN l j):d∈l:=Im (wD h)
def SJ(p:J)(n j:Nat):Value:=.slice (dA p (6*j+mx n j) (6*j) 5) (mx n j) (mx n j)
theorem aqv(m:Nat):min2 6 (m:Int)=((min 6 m:Nat):Int):=by unfold min2;split<;>omega
theorem aiu{w:World}{nS kA dN cW:Nat}{p:J}{n c:Nat}(K7:μ w nS I1 1 (some ⟨dN,0,none⟩) 1 1 [.slice p n c])(ρ:μ w kA ck 1 (some ⟨cW,0,none⟩) 1 1 [.int .i64 6])(ar:n<=100000)(jZ:n<=c):
  SeqStopsK Fence.wide 0 prog 184 #[.pointer (some ⟨dN,0,none⟩),.pointer (some ⟨cW,0,none⟩)] (λx:_root_.Fin (j9 n)=>#[SJ p n x.val]) (vv dN cW) (λxs=>xs.map (·.val)=List.range (j9 n)) (λ_=>True) (j9 n) w:=by
 intro l C6 Ro W ω J6 Tl ag aF;have x:=Kp.ade ω;have AQ:=K7.aC x (λa aP=>by cases aP;have:=(K7.ge rfl).2;dsimp only at this⊢;omega);have ad:=ρ.aC x (λa aP=>by cases aP;have:=(ρ.ge rfl).2;dsimp only at this⊢;omega);show sG.C l dN cW W _;apply sG.ok;unfold sG.main sG.bd;refine⟨λt0 t1 t2 t4 w'=>l=t0/\dN=t1/\cW=t2/\GP dN cW (.slice p n c) (.int .i64 6) w'/\∃xs:List (_root_.Fin (j9 n)),t4=((6*xs.length:Nat):Int)/\xs.map (·.val)=List.range xs.length/\C6 xs w',λt0 t1 t2 t4 w'=>(n+6-t4).toNat,⟨rfl,rfl,rfl,⟨AQ.at (by rfl),ad.at (by rfl)⟩,[],rfl,rfl,aF⟩,?_⟩;rintro _ _ _ t4 w' ⟨rfl,rfl,rfl,⟨fI,c1⟩,xs,rfl,h8,χ⟩;have hlen:xs.length<=j9 n:=by
  have h1:=rZ (List.range xs.length) (List.range (j9 n)) PJ λi o=>by rw[<-h8]at o;obtain⟨y,_,rfl⟩:=gM.1 o;exact nF.2 y.isLt
  simpa using h1
 unfold sG.ε;refine⟨p,n,c,fI,?_⟩;refine bA (λh=>?_) λh=>?_
 ·have bQ:=cd h;have Ap:xs.length<j9 n:=aqg (by omega);have Et:=R8 Ap;have Hp:mx n xs.length=min 6 (n-6*xs.length):=rfl;refine⟨6,c1,p,n,c,fI,bO (bC (by omega)) (bO (bC (by omega)) ⟨p,n,c,fI,?_⟩)⟩;rw[cP,aqv,<-Hp];have Ai:IntKind.i64.wrap (((6*xs.length:Nat):Int)+(mx n xs.length:Int))=((6*xs.length+mx n xs.length:Nat):Int):=by
   rw[b3 (by omega) (by omega)];rfl
  rw[Ai,cP];refine bO (bC (by omega)) (bO (bC (by omega)) (bO (bC (by omega)) (bO (bC (by omega)) (bO (bC (by omega)) (bO (bC (by omega)) ?_)))));have bz:6*xs.length+mx n xs.length-6*xs.length=mx n xs.length:=by omega
  rw[bz];have e3:C6 xs w'.drew:=J6 _ _ _ none χ (aat w') (λr e=>by cases e);obtain⟨fn,tmps,assign,body,il,y1⟩:=ag xs ⟨xs.length,Ap⟩ w'.drew e3 Ap;refine⟨fn,tmps,assign,body,il,y1.mono λe δ he=>?_⟩;rcases he with⟨rfl,xD,hk⟩|⟨rfl,xD⟩
  ·refine⟨_,rfl,?_⟩
   try dsimp only[dH]
   have n2:=hk _ _ ⟨fI,c1⟩;refine⟨6,n2.2,?_⟩;rw[b3 (by omega) (by omega)];refine⟨⟨rfl,rfl,rfl,n2,xs++[⟨xs.length,Ap⟩],?_,?_,xD⟩,by((try dsimp only);omega)⟩
   ·rw[e9,AU];omega
   ·rw[qt,h8,e9,AU,u2];rfl
  ·refine⟨_,rfl,?_⟩
   try dsimp only[dH]
   exact⟨⟨_,rfl⟩,.inr ⟨_,trivial,xD⟩⟩
 ·have h:=dh h;have η:=arG (n:=n) (j:=xs.length) (by omega)
  have:xs.length=j9 n:=by omega
  refine⟨⟨_,rfl⟩,.inl ⟨xs,?_,χ⟩⟩;show xs.map (·.val)=List.range (j9 n);rw[h8,this]
theorem a8.atw{w:World}{a:J}{vs:aU}(π:a8 w a vs)(m l h s:Nat)(hm:vs.length<=m*s):a8 w (dA a m l s) ((vs.drop (l*s)).take h):=by
 unfold dA;by_cases e:m=l
 ·rw[aY e]
  have:vs.drop (l*s)=[]:=q7 (by rw[<-e];exact hm)
  rw[this];cases a with
  |none=>simp[a8]
  |some a=>exactλj v aL=>by simp at aL
 ·rw[aN e];refine a8.take ?_ h;cases a with
  |none=>have:vs=[]:=π;subst this;simp[a8]
  |some a=>exact aw.drop π _
theorem akI{w:World}{p:J}{l:List fC}(π:a8 w p (jK l)){j:Nat}(χ:j<j9 l.length):a8 w (dA p (6*j+mx l.length j) (6*j) 5) (jK (sN l j)):=by
 have h:=R8 χ;have an:=NI l;have h1:=a8.atw (π.take ((6*j+mx l.length j)*5)) (6*j+mx l.length j) (6*j) (mx l.length j*5) 5 (by rw[gY];omega);have e:((((jK l).take ((6*j+mx l.length j)*5)).drop (6*j*5)).take (mx l.length j*5))=jK (sN l j):=by
  have ae:jK l=jK (l.take (6*j))++(jK (sN l j)++jK ((l.drop (6*j)).drop 6)):=by rw[<-JO,<-JO];unfold sN;rw[zm,zm]
  have bd:(jK (l.take (6*j))).length=6*j*5:=by rw[NI,gY];omega
  have fm:(jK (sN l j)).length=mx l.length j*5:=by rw[NI,R6]
  rw[FE,ae,<-bd,LJ,AX,bd,<-fm,pb (by rw[fm];omega),hr (by rw[fm];omega)]
 rw[e]at h1;exact h1
structure MZ(w0:World)(dY:a1)(e6 B pd:Nat)(d:bh.dm)(ε ι aH af dC:Nat)(q u:Int)(k:Nat)(C3:Nat)(p:J)(n c:Nat)(l:List fC)(W:World):Prop where
 dev:∃bb,hi w0 dY W B pd d bb k
 size:e6<=W.heap.size
 ρ:μ W e6 QG 1 (some ⟨ε,0,none⟩) 1 1 [.pointer (some ⟨pd,0,none⟩)]
 az:μ W e6 ck 1 (some ⟨ι,0,none⟩) 1 1 [.int .i64 q]
 bu:μ W e6 ck 1 (some ⟨aH,0,none⟩) 1 1 [.int .i64 u]
 cm:μ W e6 ck 1 (some ⟨af,0,none⟩) 1 1 [.int .i64 0]
 cz:μ W e6 CQ 1 (some ⟨dC,0,none⟩) 1 1 [.int .i64 0]
 ol:μ W C3 ft 5 p n c (jK l)
theorem hi.grown{w0 W bE:World}{dY:a1}{B pd k C:Nat}{d:bh.dm}{D:a1}(h:hi w0 dY W B pd d D k)(aC:Kp W bE (vx W C))(hC:w0.heap.size<=C):hi w0 dY bE B pd d D k:=
 ⟨hZ.grown h.dev aC,h.e8,h.off,h.after,h.len,h.fZ,h.low,h.aC.later aC hC,h.sub⟩
theorem MZ.grown{w0:World}{dY:a1}{e6 B pd:Nat}{d:bh.dm}{ε ι aH af dC:Nat}{q u:Int}{k C3:Nat}{p:J}{n c:Nat}{l:List fC}{W bE:World}{C:Nat}(h:MZ w0 dY e6 B pd d ε ι aH af dC q u k C3 p n c l W)(aC:Kp W bE (vx W C))(hC:w0.heap.size<=C):MZ w0 dY e6 B pd d ε ι aH af dC q u k C3 p n c l bE:=by obtain⟨⟨bb,aF⟩,an,h1,η,au,bV,c9,iv⟩:=h;exact⟨⟨bb,aF.grown aC hC⟩,fo an aC.size,h1.grown aC,η.grown aC,au.grown aC,bV.grown aC,c9.grown aC,iv.grown aC⟩
theorem ajw{w0 w:World}{dY:a1}{B pd:Nat}{d:bh.dm}{D:a1}{xK:Nat}(h:hi w0 dY w B pd d D xK)(Hw:xK<=1000000){seq:Int}(ψ:1<=seq/\seq<=1073741824){u:Nat}{C3:Nat}{p:J}{n c:Nat}{l:List fC}(ol:μ w C3 ft 5 p n c (jK l))(an:l.length=n)(ar:n<=(16-u)*6)(hu:u<=16)(hw:∀d∈l,d.wf)(bf:∀d∈l,h4 d=0):
  pN.C (some ⟨pd,0,none⟩) seq u p n c w (φ λv w'=>v=.tuple #[.int .i64 ((u+j9 n:Nat):Int),.int .i64 0]/\∃bb,hi w0 dY w' B pd (CJ d seq u l) bb (xK+16)):=by
 apply pN.ok;unfold pN.main;rintro ε δ eb rfl;have ρ:=μ.new (w:=w) [.pointer (some ⟨pd,0,none⟩)] QG;rw[<-eb]at ρ;have ζ:=θ.alloc w (.cells [Value.pointer (some ⟨pd,0,none⟩)].toArray QG);have bd:=(ρ.ge rfl).2;generalize w.alloc (.cells #[.pointer (some ⟨pd,0,none⟩)] QG)=δ at ρ ζ bd⊢;rintro ι υ ee rfl;have az:=μ.new (w:=δ) [.int .i64 seq] ck;rw[<-ee]at az;have τ:=θ.alloc δ (.cells [Value.int .i64 seq].toArray ck);have fm:=(az.ge rfl).2;generalize δ.alloc (.cells #[.int .i64 seq] ck)=υ at az τ fm⊢;rintro aH aa jc rfl;have bu:=μ.new (w:=υ) [.int .i64 (u:Int)] ck;rw[<-jc]at bu;have ab:=θ.alloc υ (.cells [Value.int .i64 (u:Int)].toArray ck);have uO:=(bu.ge rfl).2;generalize υ.alloc (.cells #[.int .i64 (u:Int)] ck)=aa at bu ab uO⊢;rintro af ax mC rfl;have cm:=μ.new (w:=aa) [.int .i64 0] ck;rw[<-mC]at cm;have aA:=θ.alloc aa (.cells [Value.int .i64 0].toArray ck);have EX:=(cm.ge rfl).2;generalize aa.alloc (.cells #[.int .i64 0] ck)=ax at cm aA EX⊢;rintro dC aG lf rfl;have cz:=μ.new (w:=ax) [.int .i64 0] CQ;rw[<-lf]at cz;have al:=θ.alloc ax (.cells [Value.int .i64 0].toArray CQ);generalize ax.alloc (.cells #[.int .i64 0] CQ)=aG at cz al⊢;dsimp only at bd fm uO EX;have ρ:=(ρ.ex (τ.trans (ab.trans (aA.trans al)))).lower (show w.heap.size<=ε by omega);have az:=(az.ex (ab.trans (aA.trans al))).lower (show w.heap.size<=ι by omega);have bu:=(bu.ex (aA.trans al)).lower (show w.heap.size<=aH by omega);have cm:=(cm.ex al).lower (show w.heap.size<=af by omega);have cz:=cz.lower (show w.heap.size<=dC by omega);have EP:=ζ.trans (τ.trans (ab.trans (aA.trans al)));clear ζ τ ab aA al;refine⟨some ⟨pd,0,none⟩,ρ.at (by rfl),?_⟩;rw[cond_neg (by rfl)];refine⟨seq,az.at (by rfl),?_⟩;rw[iM (by omega)];refine⟨seq,az.at (by rfl),?_⟩;rw[iM (by omega)];refine⟨u,bu.at (by rfl),?_⟩;rw[iM (by omega)];refine⟨u,bu.at (by rfl),?_⟩;rw[iM (by omega)];unfold pN.bd;refine⟨λdW dL ec t4 t5 t6 t8 t9 Me Md Qm t35 t36 w'=>p=dW/\n=dL/\c=ec/\ε=t4/\ι=t5/\aH=t6/\af=t8/\dC=t9/\p=Me/\n=Md/\c=Qm/\t35=(n:Int)/\0<=t36/\t36<=n/\θ aG w',
  λdW dL ec t4 t5 t6 t8 t9 Me Md Qm t35 t36 w'=>(n-t36).toNat,⟨rfl,rfl,rfl,rfl,rfl,rfl,rfl,rfl,rfl,rfl,rfl,rfl,by omega,by omega,θ.refl _⟩,?_⟩
 rintro _ _ _ _ _ _ _ _ _ _ _ _ t36 w' ⟨rfl,rfl,rfl,rfl,rfl,rfl,rfl,rfl,rfl,rfl,rfl,rfl,aF,h1,I⟩;unfold pN.ε;refine bA (λχ=>?_) λχ=>?_
 ·have χ:=cd χ;obtain⟨j,rfl⟩:=eR aF;obtain⟨e,he,hm,_⟩:=bh.oO (show j<l.length by omega);refine bO (bC aF) (bO (bC χ) ?_);obtain⟨a,rfl,lL⟩:=ZM ((ol.cells.ex EP).ex I) he
  try dsimp only[bj]
  refine⟨e.cells.toArray,rfl,lL,?_⟩;rintro gb ba rfl rfl;have bS:=μ.new (w:=w') mo ft;have aJ:=θ.alloc w' (.cells mo.toArray ft);unfold mo at bS aJ;generalize w'.alloc (.cells #[.int .i64 0,.int .i64 0,.int .i64 0,.int .i64 0,.complex .f64 0 0] ft)=ba at bS aJ⊢;refine bO (by rfl) ?_;refine bS.put (by rfl) cells_one λbk hK eM=>?_;have aV:θ w' bk:=aJ.then hK λi o=>o▸eF _;refine⟨e.cells.toArray,rfl,eM.cells,?_⟩;refine κ.use (dB.Bj (hw e hm) _) ?_;rintro _ b9 ⟨rfl,ct⟩
  try dsimp only[bH]
  rw[bf e hm,cond_neg (by rfl)];have iT:IntKind.i64.wrap ((j:Int)+1)=((j+1:Nat):Int):=by rw[b3 (by omega) (by omega)];rfl
  rw[iT];exact⟨⟨rfl,rfl,rfl,rfl,rfl,rfl,rfl,rfl,rfl,rfl,rfl,rfl,by omega,by omega,I.trans (aV.trans ct)⟩,by((try dsimp only);omega)⟩
 ·unfold pN.aZ;have ρ:=ρ.ex I;have az:=az.ex I;have bu:=bu.ex I;have cm:=cm.ex I;have cz:=cz.ex I;have I:=EP.trans I;clear EP;refine⟨u,bu.at (by rfl),?_⟩;rw[b3 (x:=16-(u:Int)) (by omega) (by omega),b3 (by omega) (by omega),iM (by omega)];refine κ.use (dB.Q9 p n c w') ?_;rintro _ fT ⟨dN,cW,rfl,nO,AQ,ad⟩;refine bO (by rfl) ?_;have UF:=I.trans nO;have rK:=h.ex UF;have ρ:=ρ.ex nO;have az:=az.ex nO;have ayi:aH<w'.heap.size:=(bu.ge rfl).2;have ayj:af<w'.heap.size:=(cm.ge rfl).2;have bu:=bu.ex nO;have cm:=cm.ex nO;have cz:=cz.ex nO;have ard:=ol.ex UF;have KB:w'.heap.size<=dN:=(AQ.ge rfl).1;have abF:w'.heap.size<=cW:=(ad.ge rfl).1;have Uo:j9 n<=16-u:=by unfold j9;omega
  have fj:w0.heap.size<=fT.heap.size:=rK.aC.size;have ax7:w0.heap.size<=w.heap.size:=h.aC.size;refine⟨_root_.Fin (j9 n),λx=>SJ p n x.val,vv dN cW,λxs=>xs.map (·.val)=List.range (j9 n),λ_=>True,j9 n,
   λxs W=>MZ w0 dY w.heap.size B pd (Gc d seq u l (xs.map (·.val))) ε ι aH af dC seq ((u+xs.length:Nat):Int) (xK+xs.length) C3 p n c l W/\μ W 0 I1 1 (some ⟨dN,0,none⟩) 1 1 [.slice p n c]/\μ W 0 ck 1 (some ⟨cW,0,none⟩) 1 1 [.int .i64 6],λ_ _=>False,?_,?_,?_,?_⟩
  ·refine⟨aiu AQ ad (by omega) ol.2.1,λh k=>h.trans k,λW l γ hd _ aE π _=>vv.book W l γ hd aE π,?_,λ_ _ _ _ h=>h.elim,⟨⟨⟨D,rK⟩,UF.size,ρ,az,bu,cm,cz,ard⟩,AQ.lower (da _),ad.lower (da _)⟩⟩;intro xs W bE row gp TV σ;have k:=Kp.grown TV σ;exact⟨gp.1.grown k fj,gp.2.1.grown k,gp.2.2.grown k⟩
  ·intro pre x hg gp Uq;obtain⟨⟨⟨e5,aax⟩,pz,ρ,az,bu,cm,cz,adj⟩,oo,cS⟩:=gp;have KM:=x.isLt;have Et:=R8 KM;have uH:pre.length<16-u:=by omega
   have gg:=R6 l x.val;rw[an]at gg;unfold SJ
   try dsimp only[er]
   refine⟨seq,az.at (by rfl),((u+pre.length:Nat):Int),bu.at (by rfl),?_⟩;have l5:bh.kP (kJ (qx seq ((u+pre.length:Nat):Int) (sN l x.val))):=⟨x8 (by rw[P7,gg];omega),IH (P6 (λd ae=>hw d (JI ae)) λd ae=>bf d (JI ae))⟩;have rL:a8 hg (dA p (6*x.val+mx n x.val) (6*x.val) 5) (jK (sN l x.val)):=by
    have:=akI adj.cells (j:=x.val) (by rw[an];exact KM)
    rw[an]at this;exact this
   refine κ.use (dB.aer seq _ _ _ _ (sN l x.val) hg ⟨by omega,by omega⟩ rL gg Et.2.2 (λd ae=>hw d (JI ae)) λd ae=>bf d (JI ae)) ?_;rintro _ kx ⟨q,e,rfl,ti,CZ⟩
   try dsimp only[bZ,cC,cD,bj,bH,er]
   rw[cond_pos (by rfl)];refine⟨some ⟨pd,0,none⟩,(ρ.ex CZ).at (by rfl),((u+pre.length:Nat):Int),(bu.ex CZ).at (by rfl),?_⟩;have vO:IntKind.i64.wrap (24+((u+pre.length:Nat):Int))=((24+(u+pre.length):Nat):Int):=by rw[b3 (by omega) (by omega)];omega
   rw[vO];have N6:=aax.ex CZ;have uC:=N6.len;refine N6.put (by omega) (i:=((24+(u+pre.length):Nat):Int)) ⟨by omega,by omega⟩ (bh.np.Cp N6.dev ti (by decide) (by decide) (by decide)) l5 λjr cM xu AD=>?_
   try dsimp only[bH]
   rw[cond_neg (by rfl)];have off:∀{e:TypeId}{sz:Nat}{p:J}{n c B':Nat}{xs:aU},μ hg B' e sz p n c xs->e≠QD->e≠QE->e≠QF->μ jr B' e sz p n c xs:=
    λγ g1 g2 g3=>N6.c0 AD (γ.ex CZ) g1 g2 g3
   have r1:=off ρ (by decide) (by decide) (by decide);have q0:=off az (by decide) (by decide) (by decide);have th:=off bu (by decide) (by decide) (by decide);have Fb:=off cm (by decide) (by decide) (by decide);have Pd:=off cz (by decide) (by decide) (by decide);have arc:=off adj (by decide) (by decide) (by decide);refine⟨_,th.at (by rfl),?_⟩;have alY:IntKind.i64.wrap (((u+pre.length:Nat):Int)+1)=((u+(pre.length+1):Nat):Int):=by rw[b3 (by omega) (by omega)];omega
   rw[alY];refine th.dj (Iu 0) (by rfl) λss HO E9=>?_;have oZ:Kp hg ss λi=>e5 i\/i=aH:=Kp.trans ((CZ.aC e5).gr AD) HO (λi _ h=>.inl h) λi _ h=>.inr h;have t3:=(th.typed rfl).1;have amG:hi w0 dY ss B pd (bh.dj (Gc d seq u l (pre.map (·.val))) ((24+(u+pre.length):Nat):Int) (kJ (qx seq ((u+pre.length:Nat):Int) (sN l x.val)))) cM (xK+pre.length+1):=by
    refine⟨xu.dev.aC HO λi o e=>?_,xu.e8,xu.off,xu.after,xu.len,xu.fZ,xu.low,Kp.trans xu.aC HO (λ_ _ h=>h) λi o e=>?_,xu.sub⟩
    ·subst e;rcases(xu.dev.typed o).1 with k2|k2|k2
     ·exact t3.ne k2 (by decide) rfl
     ·exact t3.ne k2 (by decide) rfl
     ·exact t3.ne k2 (by decide) rfl
    ·have:=(bu.ge rfl).1
     dsimp only at this;omega
   have asx:=off oo (by decide) (by decide) (by decide);have asy:=off cS (by decide) (by decide) (by decide);have dz:∀{b B':Nat}{e:TypeId}{sz n c:Nat}{xs:aU},μ jr B' e sz (some ⟨b,0,none⟩) n c xs->b≠aH->μ ss B' e sz (some ⟨b,0,none⟩) n c xs:=λγ cc=>γ.aC HO λx I=>by cases I;exact cc
   have d1:ε≠aH:=λe=>by subst e;exact(r1.typed rfl).1.ne t3 (by decide) rfl
   have d0:dN≠aH:=by omega
   have ad4:=dz asx d0;have ad5:=dz asy (by omega);refine⟨KeepsOthers.adf oZ ?_,?_,⟨⟨cM,?_⟩,fo pz oZ.size,dz r1 d1,dz q0 (by omega),?_,dz Fb (by omega),Pd.cI HO ck (λi o=>o▸t3) (by decide),arc.cI HO ck (λi o=>o▸t3) (by decide)⟩,ad4,ad5⟩
   ·rintro i _ (o|rfl)
    ·rcases(aax.dev.typed o).1 with t|t|t<;>exact⟨_,t⟩
    ·exact⟨_,(bu.typed rfl).1⟩
   ·intro v0 v1 π;have hI:=π.1.symm.trans (oo.at (j:=0) (by rfl));have aM:=π.2.symm.trans (cS.at (j:=0) (by rfl));cases hI;cases aM;exact⟨ad4.at (by rfl),ad5.at (by rfl)⟩
   ·have aM:(pre++[x]).map (·.val)=pre.map (·.val)++[x.val]:=by simp
    rw[aM,aeL,jP,e9];exact amG
   ·rw[e9];exact E9
  ·intro vt xs iX amO h8 gp Eu;have h8:xs.map (·.val)=List.range (j9 n):=h8;obtain⟨⟨⟨e5,g1⟩,pz,ayk,aX,iB,iq,eZ,pl⟩,_,_⟩:=gp;have oV:xs.length=j9 n:=by have:=gN List.length h8;simpa using this
   rw[oV]at iB g1;refine⟨_,iB.at (by rfl),?_⟩;refine iq.dj (Iu 0) (by rfl) λCU UX Fc=>?_;have adA:=eZ.aC UX (λx I=>by cases I;dsimp only;intro e;subst e;exact(eZ.typed rfl).1.ne (iq.typed rfl).1 (by decide) rfl);refine adA.dj (Iu 0) (by rfl) λw1 UY Fe=>?_;have ac2:=Fc.aC UY (λx I=>by cases I;dsimp only;intro e;subst e;exact(eZ.typed rfl).1.ne (iq.typed rfl).1 (by decide) rfl);have cc:∀{b B':Nat}{e:TypeId}{W:World}{xs:aU}{sz n c:Nat},μ W B' e sz (some ⟨b,0,none⟩) n c xs->W.heap[vt]?=some (.deferred (some []))->vt≠b:=λγ ae e=>by obtain⟨cur,fr,aO⟩:=(γ.typed rfl).1;dsimp only at aO;rw[<-e,ae]at aO;cases aO
   have TG:CU.heap[vt]?=some (.deferred (some [])):=by rw[UX.block vt (Array.getElem?_eq_some_iff.1 Eu).1 (cc iq Eu)];exact Eu
   have TH:w1.heap[vt]?=some (.deferred (some [])):=by rw[UY.block vt (Array.getElem?_eq_some_iff.1 TG).1 (cc adA TG)];exact TG
   refine⟨TH,?_⟩;have UZ:=Kp.putObj w1 vt (.deferred none);have aq0:=ac2.aC UZ (λx I=>by cases I;exactλe=>cc ac2 TH e.symm);have aq1:=Fe.aC UZ (λx I=>by cases I;exactλe=>cc Fe TH e.symm);refine⟨_,aq0.at (by rfl),_,aq1.at (by rfl),?_⟩;have axr:w.heap.size<=af:=(iq.ge rfl).1;have axs:w.heap.size<=dC:=(eZ.ge rfl).1;have b1:fT.heap.size<=vt:=amO;have b7:Kp iX (w1.putObj vt (.deferred none)) λi=>i=af\/i=dC\/i=vt:=Kp.trans (Kp.trans UX UY (λi _ h=>.inl h) λi _ h=>.inr h) UZ (λi _ h=>by rcases h with h|h;exact .inl h;exact .inr (.inl h)) (λi _ h=>.inr (.inr h)) (T:=λi=>i=vt) (S:=λi=>i=af\/i=dC);refine φ.mk ⟨rfl,e5,?_⟩;unfold CJ;rw[an,<-h8];refine⟨g1.dev.aC b7 λi o ψ=>?_,g1.e8,g1.off,g1.after,g1.len,by have:=g1.fZ;omega,g1.low,Kp.trans g1.aC b7 (λi _ h=>h) λi o ψ=>absurd ψ (by omega),g1.sub⟩;have aO:=(g1.dev.typed o).1;rcases ψ with rfl|rfl|rfl
   ·have t:=(iq.typed rfl).1;rcases aO with k2|k2|k2
    ·exact t.ne k2 (by decide) rfl
    ·exact t.ne k2 (by decide) rfl
    ·exact t.ne k2 (by decide) rfl
   ·have t:=(eZ.typed rfl).1;rcases aO with k2|k2|k2
    ·exact t.ne k2 (by decide) rfl
    ·exact t.ne k2 (by decide) rfl
    ·exact t.ne k2 (by decide) rfl
   ·have:vx iX 0 i:=⟨da _,_,Eu,rfl⟩
    rcases aO with t|t|t<;>exact this.typed t
  ·intro vt pre jf _ _ gp _;exact gp.elim
end Go.Proofs.YtcpdfhkhaekekaaGreat.G.cQ
namespace Go.Proofs.YtcpdfhkhaekekaaGreat.G.bG
open Go.bI Go.RowKit
theorem akh{w:World}{e:TypeId}{sz:Nat}{p:J}{n c m bytes:Nat}{zero:ah}{Src:aU->Prop}{N:J->Nat->ai}
  (h:gD w p n c m Src e sz bytes zero λbU aT w'=>(bU=p\/∀x,bU=some x->w.heap.size<=x.block)->N bU aT w'):gD w p n c m Src e sz bytes zero N:=by
 obtain⟨ys,h1,η,au,bV⟩:=h;refine⟨ys,h1,η,λσ=>⟨(au σ).1,λw' hw=>(au σ).2 w' hw (.inl rfl)⟩,λbL=>?_⟩;obtain⟨aZ,bP,Fi,b7,cp,ea⟩:=bV bL;exact⟨aZ,bP,Fi,b7,cp,λb aT w' ω π hw=>ea b aT w' ω π hw (.inr λx I=>by cases I;exact Ii ω.symm)⟩
structure cg where
 k:Int
 v:Int
 b:Int
 s:Int
 bF:ao
 p:J
 n:Nat
 c:Nat
def cg.cells(r:cg):aU:=[.int .i64 r.k,.int .i64 r.v,.int .i64 r.b,.int .i64 r.s,.slice r.p r.n r.c]
abbrev bytesOf(r:cg):aU:=r.bF.map (Value.int .u8)
structure Small(r:cg):Prop where
 len:r.bF.length=r.n
 fZ:r.n<=140737488351232
 wf:∀x∈r.bF,0<=x/\x<256
structure Rx(w:World)(r:cg):Prop where
 cells:a8 w r.p (bytesOf r)
 small:Small r
def e8(k:Int):Prop:=1<=k/\k<=9
def k4:aU:=[.int .i64 0,.int .i64 0,.int .i64 0,.int .i64 0,.slice none 0 0]
theorem BQ{a b c d:Int}{p:J}{n m:Nat}:∀y∈[Value.int .i64 a,.int .i64 b,.int .i64 c,.int .i64 d,.slice p n m],y.oneCell'=true:=by intro y ag;simp only[fE,oj,pa]at ag;rcases ag with rfl|rfl|rfl|rfl|rfl<;>rfl
theorem atn{a b c d f:Int}{p:J}{n m:Nat}:∀y∈[Value.int .i64 a,.int .i64 b,.int .i64 c,.int .i64 d,.slice p n m,.int .i64 f],y.oneCell'=true:=by intro y ag;simp only[fE,oj,pa]at ag;rcases ag with rfl|rfl|rfl|rfl|rfl|rfl<;>rfl
theorem Ns(r:cg)(w:World)(h:Rx w r):
  Ee.C r.k r.v r.b r.s r.p r.n r.c w (φ λv w'=>∃bU aT,v=.agg (cg.cells {r with p:=bU,c:=aT}).toArray/\θ w w'/\μ w' w.heap.size 5 1 bU r.n aT (bytesOf r)):=by
 apply Ee.ok;unfold Ee.main;rintro ε δ rfl rfl ι υ rfl rfl;have ρ:=μ.new (w:=w) (cg.cells r) ev;have ζ:=θ.alloc w (.cells (cg.cells r).toArray ev);unfold cg.cells at ρ ζ;generalize w.alloc (.cells #[.int .i64 r.k,.int .i64 r.v,.int .i64 r.b,.int .i64 r.s,.slice r.p r.n r.c] ev)=δ at ρ ζ⊢;have az:=μ.new (w:=δ) k4 ev;have τ:=θ.alloc δ (.cells k4.toArray ev);unfold k4 at az τ;generalize δ.alloc (.cells #[.int .i64 0,.int .i64 0,.int .i64 0,.int .i64 0,.slice none 0 0] ev)=υ at az τ⊢;have dG:=ζ.trans τ;have AK:=ρ.ex τ;refine⟨_,_,_,AK.at (j:=4) rfl,?_⟩;refine κ.use (bh.Jg r.p r.n r.c (bytesOf r) υ (h.cells.ex dG) (by simpa using h.small.len) h.small.fZ (GJ _ _)) ?_;rintro _ aa ⟨bU,aT,rfl,ab,bu⟩
 try dsimp only[er]
 have s1:w.heap.size<δ.heap.size:=(ρ.typed rfl).2.2;refine(AK.ex ab).dj (j:=4) (by show 4<1*5;omega) rfl λaG ea cz=>?_;refine⟨#[.int .i64 r.k,.int .i64 r.v,.int .i64 r.b,.int .i64 r.s,.slice bU r.n aT],rfl,cz.cells,aW rfl ?_⟩
 try dsimp only[iG]
 refine((az.ex ab).aC ea λx e o=>by cases e;dsimp only at o;omega).put (by rfl) BQ λba dP bS=>?_;refine⟨_,rfl,bS.cells,φ.mk ⟨bU,aT,rfl,?_,?_⟩⟩
 ·refine((dG.trans ab).then ea λi o=>?_).then dP λi o=>?_
  ·rw[o];exact eF _
  ·rw[o];exact ζ.size
 ·have aH:υ.heap.size<=υ.heap.size:=eF _;have s2:δ.heap.size<υ.heap.size:=(az.typed rfl).2.2;refine((bu.aC ea λx e o=>?_).aC dP λx e o=>?_).lower (fo ζ.size τ.size)
  ·have:=(bu.ge e).1
   omega
  ·have:=(bu.ge e).1
   omega
theorem Bj(r:cg)(w:World):D9.C r.k r.v r.b r.s r.p r.n r.c w (φ λv w'=>(e8 r.k/\v=.int .i64 0\/¬e8 r.k/\v=.int .i64 1)/\θ w w'):=by
 apply D9.ok;unfold D9.main;rintro ε δ rfl rfl;have ρ:=μ.new (w:=w) (cg.cells r) ev;have ζ:=θ.alloc w (.cells (cg.cells r).toArray ev);unfold cg.cells at ρ ζ;generalize w.alloc (.cells #[.int .i64 r.k,.int .i64 r.v,.int .i64 r.b,.int .i64 r.s,.slice r.p r.n r.c] ev)=δ at ρ ζ⊢;unfold e8;refine⟨_,ρ.at (j:=0) rfl,bA (λh=>?_) λh=>?_⟩
 ·have:=cd h
  exact φ.mk ⟨.inr ⟨by omega,rfl⟩,ζ⟩
 have h1:=dh h;refine⟨_,ρ.at (j:=0) rfl,bA (λh=>?_) λh=>?_⟩
 ·have:=cd h
  exact φ.mk ⟨.inr ⟨by omega,rfl⟩,ζ⟩
 have η:=dh h;exact φ.mk ⟨.inl ⟨by omega,rfl⟩,ζ⟩
def boxed(x:cg×Int):Value:=.iface Mq (.agg #[.int .i64 x.1.k,.int .i64 x.1.v,.int .i64 x.1.b,.int .i64 x.1.s,.slice x.1.p x.1.n x.1.c,.int .i64 x.2])
structure MW(w:World)(B bm:Nat)(xs:List (cg×Int))(aj:Int)(q:J)(c:Nat):Prop where
 ρ:μ w B rf 2 (some ⟨bm,0,none⟩) 1 1 [.slice q xs.length c,.int .i64 aj]
 az:kO w B wZ 1 q xs.length c (xs.map boxed)
 bu:∀x∈xs,μ w B cG 1 x.1.p x.1.n x.1.c (bytesOf x.1)/\Small x.1
def XU(bm:Nat)(q:J)(i:Nat):Prop:=i=bm\/∃x,q=some x/\x.block=i
def mV(w:World)(B bm:Nat)(xs:List (cg×Int))(aj:Int)(D:a1):Prop:=∃q c,MW w B bm xs aj q c/\∀i,D i↔XU bm q i
theorem MW.aC{w w':World}{S:a1}{B bm:Nat}{xs:List (cg×Int)}{aj:Int}{q:J}{c:Nat}(h:MW w B bm xs aj q c)(k:Kp w w' S)(ψ:∀i,XU bm q i->¬S i)(c9:∀i,S i->¬Typed w cG i):MW w' B bm xs aj q c:=
 ⟨h.ρ.aC k λx I=>ψ _ (.inl (by cases I;rfl)),h.az.aC k λx I=>ψ _ (.inr ⟨x,I,rfl⟩),λx I=>⟨(h.bu x I).1.aC k λa aP ed=>c9 _ ed ((h.bu x I).1.typed aP).1,(h.bu x I).2⟩⟩
theorem mV.aC{w w':World}{S:a1}{B bm:Nat}{xs:List (cg×Int)}{aj:Int}{D:a1}(h:mV w B bm xs aj D)(k:Kp w w' S)(ψ:∀i,D i->¬S i)(c9:∀i,S i->¬Typed w cG i):mV w' B bm xs aj D:=by obtain⟨q,c,h,b1⟩:=h;exact⟨q,c,h.aC k (λi o=>ψ i ((b1 i).2 o)) c9,b1⟩
theorem mV.ex{w w':World}{B bm:Nat}{xs:List (cg×Int)}{aj:Int}{D:a1}(h:mV w B bm xs aj D)(k:θ w w'):mV w' B bm xs aj D:=h.aC k (λ_ _ h=>h) λ_ h=>h.elim
theorem mV.typed{w:World}{B bm:Nat}{xs:List (cg×Int)}{aj:Int}{D:a1}(h:mV w B bm xs aj D){i:Nat}(o:D i):(Typed w rf i\/Typed w wZ i)/\B<=i/\i<w.heap.size:=by
 obtain⟨q,c,h,b1⟩:=h;rcases(b1 i).1 o with rfl|⟨x,I,rfl⟩
 ·exact⟨.inl (h.ρ.typed rfl).1,(h.ρ.typed rfl).2⟩
 ·exact⟨.inr (h.az.typed I).1,(h.az.typed I).2⟩
def Q4(w:World)(B bm:Nat)(xs:List (cg×Int))(aj:Int)(D:a1)(w':World):Prop:=∃bb,mV w' B bm xs aj bb/\Kp w w' D/\∀i,bb i->D i\/w.heap.size<=i
theorem zS(w:World):Ed.C w (φ λv w'=>v=.pointer (some ⟨w.heap.size,0,none⟩)/\θ w w'/\∃D,mV w' w.heap.size w.heap.size [] 0 D):=by apply Ed.ok;unfold Ed.main;rintro ε δ rfl rfl;have ρ:=μ.new (w:=w) [.slice none 0 0,.int .i64 0] rf;exact φ.mk ⟨rfl,θ.alloc w _,_,none,0,⟨ρ,kO.nil _ _ _ _,λx I=>by cases I⟩,λi=>nh⟩
theorem XY{w:World}{B bm:Nat}{xs:List (cg×Int)}{aj:Int}{D:a1}(h:mV w B bm xs aj D):Eb.C (some ⟨bm,0,none⟩) w (φ λv w'=>v=.int .i64 ((xs.length:Nat):Int)/\w'=w):=by
 apply Eb.ok;unfold Eb.main;obtain⟨q,c,⟨h1,η,au⟩,b1⟩:=h
 try dsimp only[mB,bj,jb]
 exact⟨_,_,_,h1.at (j:=0) rfl,φ.mk ⟨rfl,rfl⟩⟩
theorem aiS{w:World}{B bm:Nat}{aj:Int}{D:a1}(h:mV w B bm [] aj D):yJ.C (some ⟨bm,0,none⟩) w (φ λv w'=>v=.tuple #[.int .i64 0,.agg k4.toArray,.int .i64 4]/\θ w w'):=by
 apply yJ.ok;unfold yJ.main;obtain⟨q,c,⟨h1,η,au⟩,b1⟩:=h;rintro ε δ rfl rfl;have ρ:=μ.new (w:=w) k4 ev;have ζ:=θ.alloc w (.cells k4.toArray ev);unfold k4 at ρ ζ;generalize w.alloc (.cells #[.int .i64 0,.int .i64 0,.int .i64 0,.int .i64 0,.slice none 0 0] ev)=δ at ρ ζ⊢
 try dsimp only[mB,bj,jb]
 refine⟨_,_,_,(h1.ex ζ).at (j:=0) rfl,?_⟩;rw[cond_pos (by simp)];refine ρ.put (by rfl) BQ λυ bP az=>?_;exact⟨_,rfl,az.cells,φ.mk ⟨rfl,ζ.then bP λi o=>by rw[o];exact eF _⟩⟩
theorem XO{w:World}{B bm:Nat}{x:cg×Int}{xs:List (cg×Int)}{aj:Int}{D:a1}(h:mV w B bm (x::xs) aj D):
  yJ.C (some ⟨bm,0,none⟩) w (φ λv w'=>∃bU aT,v=.tuple #[.int .i64 x.2,.agg (cg.cells {x.1 with p:=bU,c:=aT}).toArray,.int .i64 0]/\θ w w'/\μ w' w.heap.size 5 1 bU x.1.n aT (bytesOf x.1)):=by
 apply yJ.ok;unfold yJ.main;obtain⟨q,c,⟨h1,η,au⟩,b1⟩:=h;rintro ε δ rfl rfl;have ρ:=μ.new (w:=w) k4 ev;have ζ:=θ.alloc w (.cells k4.toArray ev);unfold k4 at ρ ζ;generalize w.alloc (.cells #[.int .i64 0,.int .i64 0,.int .i64 0,.int .i64 0,.slice none 0 0] ev)=δ at ρ ζ⊢
 try dsimp only[mB,bj,jb]
 refine⟨_,_,_,(h1.ex ζ).at (j:=0) rfl,?_⟩;rw[cond_neg (by simp;omega)];refine⟨_,_,_,(h1.ex ζ).at (j:=0) rfl,aW (by simp) ?_⟩;obtain⟨a,ay,j0⟩:=((η.ex ζ).cells).one (v:=boxed x) rfl;refine gK ay ⟨_,j0,?_⟩;unfold boxed;refine aW rfl ?_
 try dsimp only[hz,iG]
 rintro ι ax rfl rfl;have cm:=μ.new (w:=δ) [.int .i64 0,.int .i64 0,.int .i64 0,.int .i64 0,.slice none 0 0,.int .i64 0] Mq;have aA:=θ.alloc δ (.cells #[.int .i64 0,.int .i64 0,.int .i64 0,.int .i64 0,.slice none 0 0,.int .i64 0] Mq);generalize δ.alloc (.cells #[.int .i64 0,.int .i64 0,.int .i64 0,.int .i64 0,.slice none 0 0,.int .i64 0] Mq)=ax at cm aA⊢;refine aW rfl ?_
 skip
 refine cm.put (by rfl) atn λaG ea cz=>?_;have al:θ δ aG.drew:=(aA.then ea λi o=>by rw[o];exact eF _).trans (θ.drew aG);have cz:=cz.ex (θ.drew aG);generalize aG.drew=aG at al cz⊢;refine⟨_,cz.at (j:=5) rfl,_,rfl,(cz.cells).take 5,?_⟩;obtain⟨d1,d2⟩:=au x (om ..);refine κ.use (Ns x.1 aG ⟨((d1.ex ζ).ex al).cells,d2⟩) ?_;rintro _ ba ⟨bU,aT,rfl,aJ,bS⟩;unfold cg.cells
 try dsimp only[hz,iG]
 refine⟨(cz.ex aJ).at (j:=5) rfl,aW rfl ?_⟩
 skip
 have s1:w.heap.size<δ.heap.size:=(ρ.typed rfl).2.2;have aem:=al.size;refine((ρ.ex al).ex aJ).put (by rfl) BQ λb9 fN ff=>?_;refine⟨_,rfl,ff.cells,φ.mk ⟨bU,aT,rfl,((ζ.trans al).trans aJ).then fN λi o=>by rw[o];exact eF _,?_⟩⟩;refine(bS.aC fN λy e o=>?_).lower (by omega)
 have:=(bS.ge e).1
 omega
theorem ami(a b c d t:Int)(p:J)(n m:Nat):Instr.fill (λi=>#[(0,5),(5,1)][i]?) #[(Value.int .i64 0),(Value.int .i64 0),(Value.int .i64 0),(Value.int .i64 0),(Value.slice none 0 0),(Value.int .i64 0)] [(0,(Value.agg #[.int .i64 a,.int .i64 b,.int .i64 c,.int .i64 d,.slice p n m])),(1,(Value.int .i64 t))]=
  some #[.int .i64 a,.int .i64 b,.int .i64 c,.int .i64 d,.slice p n m,.int .i64 t]:=by
 simp[Instr.fill,Value.cells]
theorem ajH{w:World}{B bm:Nat}{xs:List (cg×Int)}{aj:Int}{D:a1}(h:mV w B bm xs aj D)(dR:B<=w.heap.size)(r:cg)(σ:Rx w r)(hk:bh.np w D r.p (bytesOf r))(aO:0<=aj/\aj<1000000):
  Ec.C (some ⟨bm,0,none⟩) r.k r.v r.b r.s r.p r.n r.c w (φ λv w'=>
   (¬e8 r.k/\v=.tuple #[.int .i64 0,.int .i64 1]/\θ w w')\/(e8 r.k/\16<=xs.length/\v=.tuple #[.int .i64 0,.int .i64 12]/\θ w w')\/
   (e8 r.k/\xs.length<16/\v=.tuple #[.int .i64 (aj+1),.int .i64 0]/\∃bU aT,Q4 w B bm (xs++[({r with p:=bU,c:=aT},aj+1)]) (aj+1) D w')):=by
 apply Ec.ok;unfold Ec.main;obtain⟨q,c,⟨h1,η,au⟩,b1⟩:=h;rintro ε δ rfl rfl;have ρ:=μ.new (w:=w) (cg.cells r) ev;have ζ:=θ.alloc w (.cells (cg.cells r).toArray ev);unfold cg.cells at ρ ζ;generalize w.alloc (.cells #[.int .i64 r.k,.int .i64 r.v,.int .i64 r.b,.int .i64 r.s,.slice r.p r.n r.c] ev)=δ at ρ ζ⊢
 try dsimp only[mB,bj,jb]
 refine⟨_,rfl,ρ.cells,?_⟩;refine κ.use (Bj r δ) ?_;rintro _ υ ⟨aL,τ⟩;have dG:=ζ.trans τ;rcases aL.symm with⟨bL,rfl⟩|⟨bL,rfl⟩
 ·try dsimp only[bH]
  rw[cond_pos (by decide)];exact φ.mk (.inl ⟨bL,rfl,dG⟩)
 try dsimp only[bH]
 rw[cond_neg (by decide)];have g1:=h1.ex dG;have g2:=η.ex dG;have g3:∀x∈xs,μ υ B cG 1 x.1.p x.1.n x.1.c (bytesOf x.1):=λx I=>(au x I).1.ex dG;have ρ:=ρ.ex τ;refine⟨_,_,_,g1.at (j:=0) rfl,bA (λh=>?_) λh=>?_⟩
 ·have:=cd h
  exact φ.mk (.inr (.inl ⟨bL,by omega,rfl,dG⟩))
 have bQ:xs.length<16:=by have:=dh h;omega
 simp only[dF];refine⟨_,g1.at (j:=1) rfl,?_⟩;rw[b3 (x:=aj+1) (by omega) (by omega)];refine g1.dj (j:=1) (by show 1<1*2;omega) rfl λax cp D7=>?_;have zF:Typed υ rf bm:=(g1.typed rfl).1;have lK:B<=bm:=(g1.typed rfl).2.1;have aal:=(g2.cI cp rf (λi o=>o▸zF) (by decide)).ex (θ.drew ax);have xr:∀x∈xs,μ ax.drew B cG 1 x.1.p x.1.n x.1.c (bytesOf x.1):=λx I=>((g3 x I).cI cp rf (λi o=>o▸zF) (by decide)).ex (θ.drew ax);have r1:=(ρ.cI cp rf (λi o=>o▸zF) (by decide)).ex (θ.drew ax);have D7:=D7.ex (θ.drew ax);have GS:Kp w ax.drew λi=>i=bm:=(dG.aC _).gr (cp.gr ((θ.drew ax).aC _));have iS:Rx ax.drew r:=⟨hk _ (GS.mono λi _ o=>(b1 i).2 (.inl o)),σ.small⟩;clear g1 g2 g3 ρ cp;generalize ax.drew=ax at D7 aal xr r1 GS iS⊢;refine⟨_,_,_,D7.at (j:=0) rfl,_,rfl,r1.cells,_,D7.at (j:=1) rfl,?_⟩;refine κ.use (Ns r ax iS) ?_;rintro _ aG ⟨bU,aT,rfl,al,cz⟩;unfold cg.cells
 try dsimp only[hz]
 have g1:=D7.ex al;refine⟨g1.at (j:=1) rfl,g1.at (j:=0) rfl,gK (ami _ _ _ _ _ _ _ _) ?_⟩;rintro ι bk rfl rfl;have aV:=θ.alloc aG (.cells #[boxed ({r with p:=bU,c:=aT},aj+1)] wZ);have lX:a8 (aG.alloc (.cells #[boxed ({r with p:=bU,c:=aT},aj+1)] wZ)) (some ⟨aG.heap.size,0,none⟩) [boxed ({r with p:=bU,c:=aT},aj+1)]:=a8.alloc _ wZ;unfold boxed at aV lX;dsimp only at aV lX;generalize aG.alloc (.cells #[.iface Mq (.agg #[.int .i64 r.k,.int .i64 r.v,.int .i64 r.b,.int .i64 r.s,.slice bU r.n aT,.int .i64 (aj+1)])] wZ)=bk at aV lX⊢;have MN:=al.trans aV;have g1:=D7.ex MN;have g2:=aal.ex MN;have g3:∀x∈xs,μ bk B cG 1 x.1.p x.1.n x.1.c (bytesOf x.1):=λx I=>(xr x I).ex MN;have aaE:B<=ax.heap.size:=fo dR GS.size;have N9:B<=bk.heap.size:=fo aaE MN.size;have eM:=(cz.ex aV).lower aaE;have tW:Kp w bk λi=>i=bm:=GS.gr (MN.aC _);refine⟨g1.at (j:=0) rfl,?_⟩;refine akh (aki g2 N9 [boxed ({r with p:=bU,c:=aT},aj+1)] lX rfl (λy ag=>by simp only[lp]at ag;subst ag;rfl) rfl (by omega) (by omega) λbl bJ b9 g8 fN rO=>?_);have WT:∀i,(∃x,q=some x/\x.block=i)->Typed bk wZ i:=λi⟨x,I,o⟩=>o▸(g2.typed I).1;have g1:=g1.cI fN wZ WT (by decide);have ff:=eM.cI fN wZ WT (by decide);have g3:∀x∈xs,μ b9 B cG 1 x.1.p x.1.n x.1.c (bytesOf x.1):=λx I=>(g3 x I).cI fN wZ WT (by decide);have zF:Typed b9 rf bm:=(g1.typed rfl).1;refine g1.dj (j:=0) (by show 0<1*2;omega) rfl λca hU g9=>?_;refine⟨_,g9.at (j:=1) rfl,φ.mk (.inr (.inr ⟨bL,bQ,rfl,bU,aT,_,⟨bl,bJ,⟨?_,?_,?_⟩,λi=>nh⟩,?_,?_⟩))⟩
 ·rw[e9];exact g9
 ·rw[e9,qt];exact g8.cI hU rf (λi o=>o▸zF) (by decide)
 ·intro x I;rcases iI.1 I with I|I
  ·exact⟨(g3 x I).cI hU rf (λi o=>o▸zF) (by decide),(au x I).2⟩
  ·simp only[lp]at I;subst I;exact⟨ff.cI hU rf (λi o=>o▸zF) (by decide),σ.small.len,σ.small.fZ,σ.small.wf⟩
 ·have ai5:Kp w b9 λi=>i=bm\/∃x,q=some x/\x.block=i:=(tW.mono λi _ o=>.inl o).gr (fN.mono λi _ o=>.inr o);exact(ai5.gr (hU.mono λi _ o=>.inl o)).mono λi _ o=>(b1 i).2 o
 ·intro i o;rcases o with rfl|⟨x,I,rfl⟩
  ·exact .inl ((b1 _).2 (.inl rfl))
  ·rcases rO with h|h
   ·exact .inl ((b1 _).2 (.inr ⟨x,h▸I,rfl⟩))
   ·exact .inr (fo tW.size (h x I))
theorem atq{p:J}{m l s:Nat}{x:Addr}(h:dA p m l s=some x):∃a,p=some a/\x.block=a.block:=by
 unfold dA at h;split at h
 ·exact⟨x,h,rfl⟩
 ·cases p with
  |none=>cases h
  |some a=>cases h;exact⟨a,rfl,yv a _⟩
theorem aiM{w:World}{B bm:Nat}{x:cg×Int}{xs:List (cg×Int)}{aj:Int}{D:a1}(h:mV w B bm (x::xs) aj D):Ea.C (some ⟨bm,0,none⟩) w (φ λv w'=>v=.int .i64 0/\Q4 w B bm xs aj D w'):=by
 apply Ea.ok;unfold Ea.main;refine κ.use (XO h) ?_;rintro _ δ ⟨bU,aT,rfl,ζ,_⟩;unfold cg.cells
 try dsimp only[bj,bZ,cC,cD,mY,bH,hz,iG]
 rintro ε aa rfl rfl;have bu:=μ.new (w:=δ) k4 ev;have ab:=θ.alloc δ (.cells k4.toArray ev);unfold k4 at bu ab;generalize δ.alloc (.cells #[.int .i64 0,.int .i64 0,.int .i64 0,.int .i64 0,.slice none 0 0] ev)=aa at bu ab⊢;refine aW rfl ?_
 skip
 refine bu.put (by rfl) BQ λax cp cm=>?_;rw[cond_neg (by decide)];have ju:θ w ax:=ζ.trans (ab.then cp λi o=>by rw[o];exact eF _);obtain⟨q,c,⟨g1,g2,g3⟩,b1⟩:=h.ex ju;refine⟨_,_,_,g1.at (j:=0) rfl,aW (by simp only[List.length_cons];omega) ?_⟩;have zF:Typed ax rf bm:=(g1.typed rfl).1;refine g1.dj (j:=0) (by show 0<1*2;omega) rfl λaG ea g5=>?_;refine φ.mk ⟨rfl,_,⟨dA q c 1 1,c-1,⟨?_,?_,?_⟩,λi=>nh⟩,((ju.aC _).gr ea).mono λi _ o=>(b1 i).2 (.inl o),λi o=>.inl ((b1 i).2 ?_)⟩
 ·exact g5
 ·have:=(g2.cI ea rf (λi o=>o▸zF) (by decide)).tail (by simp) (by decide)
  simpa using this
 ·intro y ag
  have:=g3 y (h9 _ ag)
  exact⟨this.1.cI ea rf (λi o=>o▸zF) (by decide),this.2⟩
 ·rcases o with o|⟨x,I,o⟩
  ·exact .inl o
  ·obtain⟨a,aP,s0⟩:=atq I;exact .inr ⟨a,aP,s0.symm.trans o⟩
end Go.Proofs.YtcpdfhkhaekekaaGreat.G.bG
namespace Go.Proofs.YtcpdfhkhaekekaaGreat.G.aK
open Go.bI Go.RowKit cr dB eh cQ
structure aK where
 s:Int
 k:Int
 d:bh.dm
 R:bW
 st:bs.hv
 seq:Int
 used:Nat
 dl:List fC
 lB:Bool
 clock:Int
 stamps:ao
structure Ask where
 k:Int
 v:Int
 b:Int
 s:Int
 bF:ao
structure gQ where
 e:Int
 id:Int
 bF:ao
 j8:ao
def iP(R:bW):Nat:=(gB (used R)).length
def aK.cap(m:aK):Int:=(m.s-4)*m.k
def me(k:Int)(x:di):Int:=40+(x.1*k+x.2)
def gO(k:Int)(d:bh.dm)(x:di):ao:=d.now.getD (me k x).toNat []
def o2(m:aK)(d:fC):aK:={m with dl:=m.dl++[d],lB:=true}
def hW:gQ:=⟨0,0,[],[]⟩
def fail(m:aK)(e:Int):aK×gQ:=(m,⟨e,0,[],[]⟩)
def Aj(st:bs.hv):ao->bs.hv
 |[]=>st
 |x::r=>Aj (bs.nZ st x).1 r
def qS(m:aK):aK:=
 {m with d:=u5 (kV m.d) m.s m.k (m.seq+1) m.R,seq:=m.seq+1,used:=0,dl:=[],lB:=false,st:=Aj m.st (kC m.s.toNat (lays (used m.R)) [m.st.head])}
def x9(m:aK):aK:=
 if m.lB=false then m
 else if(16-m.used)*6<m.dl.length then qS m
 else{m with d:=kV (CJ (kV m.d) m.seq m.used m.dl),used:=m.used+j9 m.dl.length,dl:=[],lB:=false}
def ga(m:aK)(bF:ao)(spare:Int):aK×di:=
 let n:=bs.next m.st spare
 let x:di:=(n.2.2.1.toNat,n.2.2.2.toNat)
 ({m with st:=n.1,d:=bh.dj m.d (me m.k x) bF,stamps:=m.stamps.set x.1 m.clock},x)
def oG(m:aK):ao:=m.stamps.map λt=>min2 (m.clock-t) 65535
def fe(m:aK)(g:Nat):List di:=(lays (used m.R)).filter λx=>decide ((x.1:Int)=(g:Int))
def hT(m:aK):List di->aK×List di
 |[]=>(m,[])
 |x::r=>((hT (ga m (gO m.k m.d x) 0).1 r).1,(ga m (gO m.k m.d x) 0).2::(hT (ga m (gO m.k m.d x) 0).1 r).2)
def pv(m:aK):aK:=match r7 m.k (h6 m.s.toNat (lays (used m.R))) (oG m) m.st.head with
 |none=>qS m
 |some g=>qS {(hT m (fe m g)).1 with R:=ln m.R (fe m g) (hT m (fe m g)).2}
def I8(m:aK)(a:Ask):aK×gQ:=match gd m.R a.v with
 |none=>fail m 4
 |some e=>
  if e.1=2 then fail m 8
  else if a.b<0\/e.2.1<=a.b then fail m 5
  else if a.bF.length≠64 then fail m 6
  else if m.cap<(iP m.R:Int)+1 then fail m 9
  else if bs.room m.st 2=false then fail m 12
  else
   let p:=ga m a.bF 2
   (o2 {p.1 with R:=jD m.R a.v.toNat a.b.toNat (some p.2)} ⟨4,a.v,0,a.b,p.2.1,p.2.2⟩,hW)
def eN(m:aK)(a:Ask):aK×gQ:=
 if a.k=1 then
  (if 1<=a.s/\a.s<=32 then(match ly m.R with
   |none=>fail m 7
   |some i=>(o2 {m with R:=m.R.set i (1,a.s,List.replicate a.s.toNat none)} ⟨1,i,0,a.s,0,0⟩,{hW with id:=i}))else fail m 5)
 else if a.k=2 then(match gd m.R a.v with
  |none=>fail m 4
  |some _=>(o2 {m with R:=m.R.set a.v.toNat (0,0,[])} ⟨2,a.v,0,0,0,0⟩,hW))
 else if a.k=3 then(match gd m.R a.v with
  |none=>fail m 4
  |some e=>(match ly m.R with
   |none=>fail m 7
   |some i=>(o2 {m with R:=m.R.set i (2,e.2.1,e.2.2)} ⟨3,a.v,i,0,0,0⟩,{hW with id:=i})))
 else if a.k=4 then(match gd m.R a.v with
  |none=>fail m 4
  |some e=>if a.b<0\/e.2.1<=a.b then fail m 5 else(match(e.2.2[a.b.toNat]?).join with
   |none=>(m,{hW with bF:=bh.hR})
   |some x=>(m,{hW with bF:=gO m.k m.d x})))
 else if a.k=5 then I8 m a
 else if a.k=6 then(match gd m.R a.v with
  |none=>fail m 4
  |some e=>if e.1=2 then fail m 8 else if a.b<0\/e.2.1<=a.b then fail m 5
   else(o2 {m with R:=jD m.R a.v.toNat a.b.toNat none} ⟨5,a.v,0,a.b,0,0⟩,hW))
 else if a.k=7 then(x9 m,hW)
 else if a.k=8 then(m,{hW with j8:=[(iP m.R:Int),m.cap]})
 else(match gd m.R a.v with
  |none=>fail m 4
  |some e=>(m,{hW with j8:=[e.1,e.2.1]}))
def tick(m:aK):aK:={m with clock:=m.clock+1}
structure Inv(m:aK):Prop where
 gG:6<=m.s/\m.s<=24/\2<=m.k/\m.k<=16
 len:m.R.length=8
 ok:∀e∈m.R,lN e
 fit:lV m.s m.k m.R
 e8:bs.Good m.st
 gT:m.st.gT=m.s
 blocks:m.st.blocks=m.k
 two:2<=m.st.free.length
 free:∀x∈used m.R,(x.1:Int)∉m.st.free
 head:∀x∈used m.R,(x.1:Int)=m.st.head->(x.2:Int)<m.st.used
 dev:bh.Good m.d
 off:m.d.off=false
 after:m.d.after=-1
 mA:(m.d.now.length:Int)=40+m.s*m.k
 ot:m.stamps.length=m.s.toNat
 qz:∀t∈m.stamps,0<=t/\t<=m.clock
 dl:∀d∈m.dl,d.wf/\h4 d=0
 nn:m.used<=16
 seq:1<=m.seq
theorem ahD{R:bW}{i:Nat}{e:fL}{x:di}(h:x∈used (R.set i e)):x∈used R\/some x∈e.2.2:=by
 obtain⟨a,aP,I⟩:=wi.1 h;rcases pH aP with aP|rfl
 ·exact .inl (wi.2 ⟨a,aP,I⟩)
 ·exact .inr I
theorem ap4{R vA:bW}(h:∀x∈used vA,x∈used R):iP vA<=iP R:=
 rZ _ _ (xR _) λx I=>(kt _ _).2 (h x ((kt _ _).1 I))
theorem ap5{R vA:bW}{y:di}(h:∀x∈used vA,x∈used R\/x=y):iP vA<=iP R+1:=by
 have:=rZ (gB (used vA)) (y::gB (used R)) (xR _) λx I=>by
  rcases h x ((kt _ _).1 I)with h|rfl
  ·exact h9 _ ((kt _ _).2 h)
  ·exact om
 simpa[iP]using this
theorem acw{s k:Int}(h:6<=s/\s<=24/\2<=k/\k<=16):may s k=true:=uQ.2 h
theorem OR{s k:Int}(h:6<=s/\s<=24/\2<=k/\k<=16)(x:di):HM s k (some x)=true↔(x.1:Int)<s/\(x.2:Int)<k:=by
 rw[KQ];simp only[kH,pJ];constructor
 ·rintro⟨η,au⟩;refine⟨?_,η⟩;by_cases h1:(x.1:Int)<s
  ·exact h1
  ·have:=Io (show s<=(x.1:Int)by omega) (show 0<=k by omega)
   omega
 ·rintro⟨h1,η⟩;refine⟨η,?_⟩
  have:=Io (show(x.1:Int)+1<=s by omega) (show 0<=k by omega)
  have e:((x.1:Int)+1)*k=x.1*k+k:=by rw[Int.add_mul,Int.one_mul]
  omega
theorem lJ{s k:Int}(h:6<=s/\s<=24/\2<=k/\k<=16){R:bW}:lV s k R↔lE R/\(∀x∈used R,(x.1:Int)<s/\(x.2:Int)<k)/\(iP R:Int)<=(s-4)*k:=by unfold lV Db;rw[VE];exact⟨λ⟨⟨_,η,au⟩,bV⟩=>⟨η,λx I=>(OR h x).1 (au x I),bV⟩,λ⟨η,au,bV⟩=>⟨⟨acw h,η,λx I=>(OR h x).2 (au x I)⟩,bV⟩⟩
structure Same(m m':aK):Prop where
 s:m'.s=m.s
 k:m'.k=m.k
 st:m'.st=m.st
 d:m'.d=m.d
 seq:m'.seq=m.seq
 used:m'.used=m.used
 clock:m'.clock=m.clock
 stamps:m'.stamps=m.stamps
theorem Pg{e:fL}(h:∀q∈e.2.2,ki q)(ψ:qM e):lN e:=by
 have h1:=ψ.1;have au:=ψ.2.2.1;have bV:=ψ.2.2.2
 have:0<=e.2.1/\e.2.1<256:=by
  by_cases aF:e.1=0
  ·rw[au aF];omega
  ·have:=bV aF;omega
 exact⟨h,by omega,⟨ψ.2.1.1,by have:=ψ.2.1.2;omega⟩,this⟩
theorem Inv.set{m m':aK}(h:Inv m)(ψ:Same m m'){i:Nat}{e:fL}(ix:m'.R=m.R.set i e)(ed:qM e)(nc:∀x,some x∈e.2.2->x∈used m.R)(xz:∀d∈m'.dl,d.wf/\h4 d=0):Inv m':=by
 have ji:∀x∈used m'.R,x∈used m.R:=λx I=>by
  rw[ix]at I;rcases ahD I with h|h
  ·exact h
  ·exact nc x h
 obtain⟨f1,f2,f3⟩:=(lJ h.gG).1 h.fit;have hle:=ap4 ji;refine⟨by rw[ψ.s,ψ.k];exact h.gG,by rw[ix,jB];exact h.len,λa aP=>?_,?_,by rw[ψ.st];exact h.e8,by rw[ψ.st,ψ.s];exact h.gT,by rw[ψ.st,ψ.k];exact h.blocks,by rw[ψ.st];exact h.two,λx I=>by rw[ψ.st];exact h.free x (ji x I),λx I=>by rw[ψ.st];exact h.head x (ji x I),
  by rw[ψ.d];exact h.dev,by rw[ψ.d];exact h.off,by rw[ψ.d];exact h.after,by rw[ψ.d,ψ.s,ψ.k];exact h.mA,by rw[ψ.stamps,ψ.s];exact h.ot,by rw[ψ.stamps,ψ.clock];exact h.qz,xz,by rw[ψ.used];exact h.nn,by rw[ψ.seq];exact h.seq⟩
 ·rw[ix]at aP;rcases pH aP with aP|rfl
  ·exact h.ok a aP
  ·refine Pg (λq ay=>?_) ed;cases q with
   |none=>trivial
   |some x=>
    obtain⟨c6,dO,l8⟩:=wi.1 (nc x ay);exact(h.ok c6 dO).1 _ l8
 ·rw[ψ.s,ψ.k];refine(lJ h.gG).2 ⟨λa aP=>?_,λx I=>f2 x (ji x I),by omega⟩;rw[ix]at aP;rcases pH aP with aP|rfl
  ·exact f1 a aP
  ·exact ed
theorem ZF{m:aK}(h:Inv m){d:fC}(hw:d.wf)(π:h4 d=0):∀x∈m.dl++[d],x.wf/\h4 x=0:=λx I=>by
 rcases iI.1 I with I|I
 ·exact h.dl x I
 ·simp only[lp]at I;subst I;exact⟨hw,π⟩
structure Bu(st:bs.hv)(U:List di):Prop where
 free:∀x∈U,(x.1:Int)∉st.free
 head:∀x∈U,(x.1:Int)=st.head->(x.2:Int)<st.used
structure nT(m:aK):Prop where
 gG:6<=m.s/\m.s<=24/\2<=m.k/\m.k<=16
 e8:bs.Good m.st
 gT:m.st.gT=m.s
 blocks:m.st.blocks=m.k
theorem Inv.base{m:aK}(h:Inv m):nT m:=⟨h.gG,h.e8,h.gT,h.blocks⟩
theorem Inv.IN{m:aK}(h:Inv m):Bu m.st (used m.R):=⟨h.free,h.head⟩
structure MY(m m':aK)(x:di)(bF:ao)(U:List di):Prop where
 base:nT m'
 ok:Bu m'.st (x::U)
 new:x∉U
 lt:(x.1:Int)<m.s/\(x.2:Int)<m.k
 s:m'.s=m.s
 k:m'.k=m.k
 R:m'.R=m.R
 d:m'.d=bh.dj m.d (me m.k x) bF
 sub:∀y∈m'.st.free,y∈m.st.free
 head:m'.st.head=x.1
 from_:(x.1:Int)=m.st.head\/(x.1:Int)∈m.st.free
 dl:m'.dl=m.dl
 seq:m'.seq=m.seq
 nn:m'.used=m.used
 clock:m'.clock=m.clock
 stamps:m'.stamps=m.stamps.set x.1 m.clock
 lB:m'.lB=m.lB
 fZ:(bs.full m.st=true/\m'.st.free.length+1=m.st.free.length/\m'.st.used=1)\/(bs.full m.st=false/\m'.st.free=m.st.free/\m'.st.used=m.st.used+1)
theorem Ps{m:aK}(h:nT m){U:List di}(ji:Bu m.st U){k:Int}(hk:0<=k)(σ:bs.room m.st k=true)(bF:ao):MY m (ga m bF k).1 (ga m bF k).2 bF U:=by
 obtain⟨g1,g2,g3,g4,g5⟩:=bs.QC h.e8 hk σ;have Oy:bs.next m.st k=({bs.kb m.st with used:=(bs.kb m.st).used+1},0,(bs.kb m.st).head,(bs.kb m.st).used):=by unfold bs.next;rw[aN (by omega),aY σ]
 have B3:=bs.aqE h.e8 k;rw[Oy]at B3;have HH:=g1.used.1;have eo:=g1.head.2;have ax3:=h.gT;have px:=h.blocks;have aM:(((bs.kb m.st).head.toNat:Nat):Int)=(bs.kb m.st).head:=LF g2;have bz:(((bs.kb m.st).used.toNat:Nat):Int)=(bs.kb m.st).used:=LF HH;unfold ga;rw[Oy];by_cases bf:bs.full m.st=true
 ·obtain⟨x,r,OL⟩:=bs.S3 h.e8 hk σ bf;have aO:bs.kb m.st={m.st with head:=x,used:=0,free:=r}:=by unfold bs.kb;rw[aY bf,OL];rfl
  rw[aO]at g1 g2 g3 g4 g5 B3 HH eo aM bz⊢;dsimp only at g1 g2 g3 g4 g5 B3 HH eo aM bz⊢;have I:x∈m.st.free:=by rw[OL];exact om
  have nc:∀y∈r,y∈m.st.free:=λy ag=>by rw[OL];exact h9 _ ag
  refine⟨⟨h.gG,B3,h.gT,h.blocks⟩,⟨λy ag=>?_,λy ag he=>?_⟩,λhu=>ji.free _ hu (by dsimp only;rw[aM];exact I),⟨by dsimp only;omega,by dsimp only;omega⟩,rfl,rfl,rfl,rfl,nc,aM.symm,.inr (by dsimp only;rw[aM];exact I),rfl,rfl,rfl,rfl,rfl,rfl,.inl ⟨bf,by rw[OL];rfl,by dsimp only;omega⟩⟩
  ·rcases fE.1 ag with rfl|ag
   ·dsimp only;rw[aM];exact B3.apart
   ·exactλhm=>ji.free y ag (nc _ hm)
  ·rcases fE.1 ag with rfl|ag
   ·dsimp only;omega
   ·exact absurd (by rw[he];exact I) (ji.free y ag)
 ·have bf:bs.full m.st=false:=by simpa using bf
  have aO:bs.kb m.st=m.st:=by unfold bs.kb;rw[aN (by simp[bf])]
  rw[aO]at g1 g2 g3 g4 g5 B3 HH eo aM bz⊢;dsimp only at B3⊢;refine⟨⟨h.gG,B3,h.gT,h.blocks⟩,⟨λy ag=>?_,λy ag he=>?_⟩,λhu=>?_,⟨by dsimp only;omega,by dsimp only;omega⟩,rfl,rfl,rfl,rfl,λy ag=>ag,aM.symm,.inl aM,rfl,rfl,rfl,rfl,rfl,rfl,.inr ⟨bf,rfl,rfl⟩⟩
  ·rcases fE.1 ag with rfl|ag
   ·dsimp only;rw[aM];exact h.e8.apart
   ·exact ji.free y ag
  ·rcases fE.1 ag with rfl|ag
   ·dsimp only;omega
   ·have:=ji.head y ag he
    dsimp only;omega
  ·have:=ji.head _ hu (by dsimp only;exact aM)
   dsimp only at this;omega
structure iK(d d':bh.dm):Prop where
 e8:bh.Good d'
 off:d'.off=d.off
 after:d'.after=d.after
 len:d'.now.length=d.now.length
 o:∀i,40<=i->d'.now[i]?=d.now[i]?
theorem iK.refl{d:bh.dm}(h:bh.Good d):iK d d:=⟨h,rfl,rfl,rfl,λ_ _=>rfl⟩
theorem iK.trans{a b c:bh.dm}(h:iK a b)(k:iK b c):iK a c:=⟨k.e8,k.off.trans h.off,k.after.trans h.after,k.len.trans h.len,λi o=>(k.o i o).trans (h.o i o)⟩
theorem iK.dj{a d:bh.dm}(h:iK a d)(uC:40<=a.now.length){i:Int}(o:0<=i/\i<40){s:ao}(ψ:bh.kP s):iK a (bh.dj d i s):=
 h.trans ⟨bh.VV h.e8 (by rw[h.len];omega) ψ,rfl,rfl,jB,λj χ=>by show(d.now.set i.toNat s)[j]?=_;rw[List.getElem?_set_ne (by omega)]⟩
theorem aab{d:bh.dm}(h:bh.Good d):bh.Good (kV d):=⟨rfl,h.fZ,h.now,h.now,(λp hp=>by cases hp),h.after⟩
theorem iK.flush{a d:bh.dm}(h:iK a d):iK a (kV d):=⟨aab h.e8,h.off,h.after,h.len,h.o⟩
theorem adS{a:bh.dm}(uC:40<=a.now.length):∀(l:List ao)(d:bh.dm)(i:Int),iK a d->0<=i->i+l.length<=40->(∀s∈l,bh.kP s)->iK a (mM d i l)
 |[],d,i,h,_,_,_=>h
 |x::r,d,i,h,aF,h1,ψ=>adS uC r _ _ (h.dj uC (by simp at h1;omega) (ψ x (by simp))) (by omega) (by simp at h1;omega) λs hm=>ψ s (h9 _ hm)
theorem apW{s k q:Int}{R:bW}(ay:uU q)(bf:lV s k R)(aE:∀e∈R,lN e)(dr:R.length=8):∀bm∈iH s k q (e4 k R),bh.kP bm:=λbm h=>⟨U7 bm h,U8 ay bf aE dr bm h⟩
theorem akS{R:bW}(dr:R.length=8)(h:lE R)(k:Int):cr.fA (e4 k R).length<=11:=by
 have:=H8 dr h k
 unfold cr.fA;omega
theorem as8{a d:bh.dm}(h:iK a d)(uC:40<=a.now.length){s k q:Int}{R:bW}(ay:uU q)(bf:lV s k R)(aE:∀e∈R,lN e)(dr:R.length=8):iK a (u5 d s k q R):=by
 have ψ:=apW ay bf aE dr;have an:=Kg s k q (e4 k R);have π:=akS dr bf.1.2.1 k;have aP:=YI q;unfold u5;refine iK.flush (iK.dj (iK.flush (adS uC _ _ _ h (by omega) ?_ λx I=>ψ x (V6 I))) uC (by omega) (ψ _ ?_))
 ·rw[FG,an];omega
 ·cases lZ:iH s k q (e4 k R)with
  |nil=>rw[lZ]at an;simp at an;omega
  |cons x r=>exact om
theorem atD{q:Int}{u:Nat}{l:List fC}(iv:l.length<=6)(an:∀d∈l,d.wf/\h4 d=0):bh.kP (kJ (qx q u l)):=
 ⟨x8 (by rw[P7];omega),IH (P6 (λd ae=>(an d ae).1) λd ae=>(an d ae).2)⟩
theorem aeK{a d:bh.dm}(h:iK a d)(uC:40<=a.now.length)(q:Int)(u:Nat){l:List fC}(an:∀d∈l,d.wf/\h4 d=0):∀n:Nat,u+n<=16->iK a (Gc d q u l (List.range n))
 |0,_=>h
 |n+1,ar=>by rw[u2,aeL,CA];exact(aeK h uC q u an n (by omega)).dj uC (by omega) (atD (by rw[R6];unfold mx;omega) λx I=>an x (JI I))
theorem aeJ{a d:bh.dm}(h:iK a d)(uC:40<=a.now.length)(q:Int){u:Nat}{l:List fC}(an:∀d∈l,d.wf/\h4 d=0)(ar:u+j9 l.length<=16):iK a (CJ d q u l):=aeK h uC q u an _ ar
theorem F1{s k:Int}(h:6<=s/\s<=24/\2<=k/\k<=16){x:di}(I:(x.1:Int)<s/\(x.2:Int)<k):40<=me k x/\me k x<40+s*k:=by
 have:=((OR h x).2 I)
 rw[KQ]at this;simp only[kH,pJ]at this;unfold me;have aF:0<=(x.1:Int)*k:=zn (by omega) (by omega);omega
theorem atb{k:Int}(hk:0<k){x y:di}(I:(x.2:Int)<k)(ag:(y.2:Int)<k)(h:me k x=me k y):x=y:=by
 unfold me at h;have aM:(x.1:Int)*k+x.2=y.1*k+y.2:=by omega
 have aq:((x.1:Int)*k+x.2)/k=x.1:=by rw[Int.add_comm,V7 _ _ (by omega),LA (by omega) I];omega
 have a2:((y.1:Int)*k+y.2)/k=y.1:=by rw[Int.add_comm,V7 _ _ (by omega),LA (by omega) ag];omega
 have h1:(x.1:Int)=y.1:=by rw[<-aq,<-a2,aM]
 rw[h1]at aM;have η:(x.2:Int)=y.2:=by omega
 exact AY (by omega) (by omega)
theorem iK.sec{a d:bh.dm}(h:iK a d){k:Int}(hk:0<=k)(x:di):gO k d x=gO k a x:=by have aF:0<=(x.1:Int)*k:=zn (by omega) hk;unfold gO;rw[List.getD_eq_getElem?_getD,List.getD_eq_getElem?_getD,h.o _ (by unfold me;omega)]
theorem Wq{d:bh.dm}{s k:Int}(h:6<=s/\s<=24/\2<=k/\k<=16)(an:(d.now.length:Int)=40+s*k){x:di}(I:(x.1:Int)<s/\(x.2:Int)<k)(bF:ao){y:di}(ag:(y.1:Int)<s/\(y.2:Int)<k):gO k (bh.dj d (me k x) bF) y=if y=x then bF else gO k d y:=by
 have h1:=F1 h I;have η:=F1 h ag;unfold gO;show(d.now.set (me k x).toNat bF).getD _ _=_;rw[List.getD_eq_getElem?_getD,List.getD_eq_getElem?_getD,List.getElem?_set];by_cases e:y=x
 ·subst e;rw[aY rfl,aY (by omega),aY rfl];rfl
 ·rw[aN λbz=>e (atb (by omega) ag.2 I.2 (by omega)),aN e]
end Go.Proofs.YtcpdfhkhaekekaaGreat.G.aK
