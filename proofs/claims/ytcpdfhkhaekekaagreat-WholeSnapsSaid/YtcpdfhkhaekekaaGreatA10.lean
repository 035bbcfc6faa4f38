/- The walk of the functions, and the plain laws of the model: part of the proof. Conditions: none. -/
import Derived.Test.YtcpdfhkhaekekaaGreatA9
set_option linter.unusedVariables false
set_option linter.unusedSimpArgs false
namespace Go.Proofs.YtcpdfhkhaekekaaGreat.G.bw
open Tryz
open Go.bO Go.RowKit
theorem ow{α:Type}{l:List α}{i:Nat}(h:i<l.length):∃x,l[i]?=some x/\x∈l/\l.drop i=x::l.drop (i+1):=⟨l[i],List.getElem?_eq_getElem h,hF h,HV h⟩
def cI(l:an):aU:=l.map (Value.int .i64)
theorem N9(l:an):∀y∈cI l,y.oneCell'=true:=IF _ _
theorem uC{l:an}{i:Nat}{x:Int}(h:l[i]?=some x):(cI l)[i]?=some (.int .i64 x):=by unfold cI;rw[List.getElem?_map,h];rfl
theorem oE(l:an):(cI l).length=l.length:=by simp[cI]
def cp(k:Int):Nat:=FloatKind.f64.nearest k
theorem wM:cp 0=0:=by kernel_rfl
theorem IU(p:J)(n c:Nat)(xs:aU)(w:World)(π:a7 w p xs)(aj:xs.length=n)(ax:n<=1000000000000)(h1:∀y∈xs,y.oneCell'=true):
  FB.C p n c w (χ λv w'=>∃bT aT,v=.slice bT n aT/\η w w'/\μ w' w.heap.size 3 1 bT n aT xs):=by
 apply FB.ok;unfold FB.main;cases p with
 |none=>
  have:xs=[]:=π
  subst this
  have:n=0:=by simpa using aj.symm
  subst this
  try dsimp only[Jo,Bp]
  exact χ.mk ⟨none,0,rfl,η.refl w,μ.nil _ _ _ _⟩
 |some a=>
  try dsimp only[mI,iY]
  rintro δ γ rfl rfl;have aB:=μ.alloc (w:=w) [] 3 1 0 rfl;have I:=η.alloc w (.cells #[] 3);refine lp aB (by have:=I.size;exact this) xs (a7.ex I π) (by omega) h1 rfl (by omega) (by omega) λbT aT w' jF hk=>?_;rw[mS]at jF⊢;rw[te]at jF;exact χ.mk ⟨bT,aT,rfl,I.then hk (λi⟨x,e,o⟩=>by cases e;exact HU o),jF⟩
def has(l:an)(k:Int):Bool:=l.any λx=>k==x
theorem MC{α:Type}{P:α->Bool}{l:List α}{i:Nat}{x:α}(o:l[i]?=some x)(I:P x=true):l.any P=true:=OU.2 ⟨x,eZ o,I⟩
theorem any_none{α:Type}{P:α->Bool}{l:List α}(h:∀(j:Nat)x,j<l.length->l[j]?=some x->P x=false):l.any P=false:=by
 rw[HW];intro x I;obtain⟨j,φ⟩:=List.getElem?_of_mem I
 have:=h j x (List.getElem?_eq_some_iff.1 φ).1 φ
 simp[this]
theorem NA(l:an)(k:Int):has l k=true↔k∈l:=by
 unfold has;rw[OU];constructor
 ·rintro⟨x,I,h⟩
  have:k=x:=by simpa using h
  rw[this];exact I
 ·exactλh=>⟨k,h,by simp⟩
theorem W5{w:World}{p:J}{n c:Nat}{xs:an}(aj:a7 w p (cI xs))(ax:xs.length=n)(ψ:n<=1000000000000)(k:Int):FC.C p n c k w (χ λv w'=>v=.bool (has xs k)/\η w w'):=by
 apply FC.ok;unfold FC.main;have main:uV.C p n c k w (χ λv w'=>∃r,v=.int .i64 r/\decide (r>=0)=has xs k/\η w w'):=by
  apply uV.ok;unfold uV.main;refine⟨λcb b8 ck t1 t7 t8 w'=>p=cb/\n=b8/\c=ck/\k=t1/\t7=(n:Int)/\0<=t8/\t8<=(n:Int)/\η w w'/\∀(j:Nat)x,j<t8.toNat->xs[j]?=some x->(k==x)=false,λcb b8 ck t1 t7 t8 w'=>((n:Int)-t8).toNat,?_,?_⟩
  ·exact⟨rfl,rfl,rfl,rfl,rfl,by omega,by omega,η.refl w,λj x φ=>by simp at φ⟩
  rintro _ _ _ _ _ t8 γ ⟨rfl,rfl,rfl,rfl,rfl,aD,h1,ζ,nQ⟩;unfold uV.δ;refine bz (λπ=>?_) λπ=>?_
  ·have π:=b7 π;obtain⟨x,I,Ej,_⟩:=ow (l:=xs) (i:=t8.toNat) (by omega);obtain⟨a,rfl,jT⟩:=(aj.ex ζ).many (j:=t8.toNat) (uC I);rw[<-ey t8.toNat]at jT;refine aW aD (aW π ⟨x,jT,?_⟩);refine bz (λah=>?_) λah=>?_
   ·exact χ.mk ⟨t8,rfl,by rw[has,MC I ah];simpa using aD,ζ⟩
   ·rw[bY (by omega) (by omega)];refine⟨⟨rfl,rfl,rfl,rfl,rfl,by omega,by omega,ζ,λj y φ sW=>?_⟩,by((try dsimp only);omega)⟩;by_cases JY:j<t8.toNat
    ·exact nQ j y JY sW
    ·have:j=t8.toNat:=by omega
     subst this;rw[I]at sW;cases sW;exact ah
  ·have π:=dd π;refine χ.mk ⟨-1,rfl,?_,ζ⟩;rw[has,any_none λj x φ I=>nQ j x (by omega) I];decide
 refine κ.use main ?_;rintro _ γ ⟨r,rfl,υ,ζ⟩
 try dsimp only[bH]
 rw[υ];exact χ.mk ⟨rfl,ζ⟩
theorem QP(a:Int)(w:World):cmp_isNaN_int.C a w (χ λv w'=>v=.bool false/\w'=w):=by apply cmp_isNaN_int.ok;unfold cmp_isNaN_int.main;exact χ.mk ⟨by simp,rfl⟩
theorem ain(a:Int)(w:World):FE.C a w (χ λv w'=>v=.bool false/\w'=w):=by apply FE.ok;unfold FE.main;exact χ.mk ⟨by simp,rfl⟩
theorem aik(a b:Int)(w:World):cmp_Less_int.C a b w (χ λv w'=>v=.bool (decide (a<b))/\w'=w):=by
 apply cmp_Less_int.ok;unfold cmp_Less_int.main;refine κ.use (QP a w) ?_;rintro _ γ ⟨rfl,rfl⟩
 try dsimp only[dE,iY]
 exact χ.mk ⟨rfl,rfl⟩
def CH(l:an):Prop:=l.Pairwise (·<·)
theorem aiH{w:World}{p:J}{n c:Nat}{xs:an}(aj:a7 w p (cI xs))(ax:xs.length=n)(ψ:n<=1000000000000)(υ:CH xs)(k:Int):
  qg.C p n c k w (χ λv w'=>w'=w/\∃(i:Nat)(f:Bool),v=.tuple #[.int .i64 (i:Int),.bool f]/\i<=n/\(∀x∈xs.take i,x<k)/\∀x∈xs.drop i,k<=x):=by
 apply qg.ok;unfold qg.main;have ab1:∀(i j:Nat)x y,xs[i]?=some x->xs[j]?=some y->i<j->x<y:=λi j x y o φ D2=>by
  have:=Ch.1 υ i j (List.getElem?_eq_some_iff.1 o).1 (List.getElem?_eq_some_iff.1 φ).1 D2
  rw[(List.getElem?_eq_some_iff.1 o).2,(List.getElem?_eq_some_iff.1 φ).2]at this;exact this
 have jT:∀i:Nat,i<n->∃a x,p=some a/\xs[i]?=some x/\w.cell? (a.add (i*1))=some (.int .i64 x):=λi o=>by obtain⟨x,I,_⟩:=ow (l:=xs) (i:=i) (by omega);obtain⟨a,aQ,π⟩:=aj.many (j:=i) (uC I);rw[<-ey i]at π;exact⟨a,x,aQ,I,π⟩
 refine⟨λcb b8 ck t1 t6 t7 t8 w'=>p=cb/\n=b8/\c=ck/\k=t1/\t6=(n:Int)/\0<=t7/\t7<=t8/\t8<=(n:Int)/\w=w'/\(∀(j:Nat)x,(j:Int)<t7->xs[j]?=some x->x<k)/\(∀(j:Nat)x,t8<=(j:Int)->xs[j]?=some x->k<=x),λcb b8 ck t1 t6 t7 t8 w'=>(t8-t7).toNat,?_,?_⟩
 ·refine⟨rfl,rfl,rfl,rfl,rfl,by omega,by omega,by omega,rfl,λj x φ=>by omega,λj x φ I=>?_⟩
  have:=(List.getElem?_eq_some_iff.1 I).1
  omega
 rintro _ _ _ _ _ eT o γ ⟨rfl,rfl,rfl,rfl,rfl,aD,h1,ι,rfl,pb,NN⟩;unfold qg.δ;have J0:IntKind.i64.wrap (Int.fdiv (IntKind.u64.wrap (IntKind.i64.wrap (eT+o))) (2^(min 1 IntKind.u64.bits)))=(eT+o)/2:=by
  have aO:IntKind.u64.wrap (IntKind.i64.wrap (eT+o))=eT+o:=by rw[bY (by omega) (by omega)];simp[IntKind.wrap,IntKind.signed,IntKind.bits];omega
  have bE:(2:Int)^(min 1 IntKind.u64.bits)=2:=by decide
  rw[aO,bE,HX _ (by omega),bY (by omega) (by omega)]
 rw[J0];refine bz (λπ=>?_) λπ=>?_
 ·have π:=b7 π;obtain⟨a,x,rfl,I,vy⟩:=jT ((eT+o)/2).toNat (by omega);refine aW (by omega) (aW (by omega) ⟨x,vy,?_⟩);refine κ.use (aik x k w) ?_;rintro _ τ ⟨rfl,rfl⟩
  try dsimp only[dE]
  refine bz (λbM=>?_) λbM=>?_
  ·have bM:=b7 bM;rw[bY (by omega) (by omega)];refine⟨⟨rfl,rfl,rfl,rfl,rfl,by omega,by omega,by omega,rfl,λj y φ ah=>?_,NN⟩,by((try dsimp only);omega)⟩;by_cases Ts:j=((eT+o)/2).toNat
   ·subst Ts;rw[I]at ah;cases ah;exact bM
   ·have:=ab1 j _ y x ah I (by omega)
    omega
  ·have bM:=dd bM;refine⟨⟨rfl,rfl,rfl,rfl,rfl,by omega,by omega,by omega,rfl,pb,λj y φ ah=>?_⟩,by((try dsimp only);omega)⟩;by_cases Ts:j=((eT+o)/2).toNat
   ·subst Ts;rw[I]at ah;cases ah;omega
   ·have:=ab1 _ j x y I ah (by omega)
    omega
 ·have π:=dd π
  have:o=eT:=by omega
  subst this;have fin:∀f:Bool,χ (λv w'=>w'=w/\∃(i:Nat)(f:Bool),v=.tuple #[.int .i64 (i:Int),.bool f]/\i<=n/\(∀x∈xs.take i,x<k)/\∀x∈xs.drop i,k<=x) (.returned (.tuple #[.int .i64 o,.bool f])) w:=λf=>by
   refine χ.mk ⟨rfl,o.toNat,f,by rw[show((o.toNat:Nat):Int)=o by omega],by omega,λx I=>?_,λx I=>?_⟩
   ·obtain⟨j,φ⟩:=List.getElem?_of_mem I;rw[List.getElem?_take]at φ;split at φ
    ·exact pb j x (by omega) φ
    ·cases φ
   ·obtain⟨j,φ⟩:=List.getElem?_of_mem I;rw[List.getElem?_drop]at φ;exact NN _ x (by omega) φ
  unfold qg.a1;refine bz (λaf=>?_) λ_=>fin false;have af:=b7 af;obtain⟨a,x,rfl,I,vy⟩:=jT o.toNat (by omega);refine aW aD (aW (by omega) ⟨x,vy,bz (λ_=>fin true) λ_=>aW aD (aW (by omega) ⟨x,vy,?_⟩)⟩);refine κ.use (ain x w) ?_;rintro _ τ ⟨rfl,rfl⟩
  try dsimp only[dE,iY]
  exact fin false
def ins(l:an)(i:Nat)(v:Int):an:=l.take i++v::l.drop i
theorem asI(w:World):(Go.sizeOf 3).run prog w=.ok 1 w:=agx.rG (H:=w.heap) w rfl
theorem aia{w:World}{B:Nat}{p:J}{n c:Nat}{xs:an}(aB:μ w B 3 1 p n c (cI xs))(dW:B<=w.heap.size)(ax:n<=1000000){i:Nat}(o:i<=n){zd:Nat}{v:Int}(aJ:w.heap[zd]?=some (.cells #[.int .i64 v] 3))(ca:∀x,p=some x->zd≠x.block):
  FD.C p n c (i:Int) (some ⟨zd,0,none⟩) 1 1 w (χ λr w'=>∃bT aT,r=.slice bT (n+1) aT/\μ w' B 3 1 bT (n+1) aT (cI (ins xs i v))/\Kp w w' (λj=>∃x,p=some x/\x.block=j)/\(bT=p\/∀x,bT=some x->w.heap.size<=x.block)):=by
 apply FD.ok;unfold FD.main;have oD:xs.length=n:=by have:=aB.1;rw[oE]at this;omega
 have Ki:a7 w (some ⟨zd,0,none⟩) [.int .i64 v]:=λj y φ=>by
  rw[Addr.add_lit];simp only[mS];rw[cell_of_block aJ];rcases j with _|j
  ·exact φ
  ·simp at φ
 have aoR:IntKind.i64.wrap ((n:Int)+((1:Nat):Int))=(n:Int)+1:=by rw[bY (by omega) (by omega)];rfl
 have aoQ:IntKind.i64.wrap ((i:Int)+((1:Nat):Int))=(i:Int)+1:=by rw[bY (by omega) (by omega)];rfl
 have aoO:IntKind.i64.wrap ((n:Int)+1-(i:Int))=(n:Int)+1-(i:Int):=bY (by omega) (by omega);rw[aoR,aoQ,aoO];have aO:(i:Int).toNat=i:=by omega
 have bE:((n:Int)+1).toNat=n+1:=by omega
 have gw:((i:Int)+1).toNat=i+1:=by omega
 have iZ:((n:Int)+1-(i:Int)).toNat=n+1-i:=by omega
 rw[aO,bE,gw,iZ,aB.asJ 1];refine aW (by omega) (aW (by omega) ?_);rw[cond_neg (by decide)];refine bz (λc4=>?_) λc4=>?_
 ·have c4:(i:Int)=(n:Int):=by simpa using c4
  have c4:i=n:=by omega
  subst c4;refine Bb aB dW [.int .i64 v] Ki rfl (by simp[Value.oneCell']) rfl (by omega) (by omega) λbT aT w' hD k' D7=>?_;have e:cI xs++[.int .i64 v]=cI (ins xs i v):=by unfold ins cI;rw[hc (by omega),qY (by omega),q0];rfl
  rw[e]at hD;exact χ.mk ⟨bT,aT,rfl,hD,k',D7⟩
 have c4:¬(i:Int)=(n:Int):=by simpa using c4
 have bM:i<n:=by omega
 obtain⟨cc,rQ,_,NJ⟩:=ow (l:=xs) (i:=i) (by omega);refine bz (λjS=>?_) λjS=>?_
 ·have jS:=b7 jS;have pc:=aB.2.1;refine aW (by omega) (aW (by omega) (aW (by omega) ?_));have anF:=aB.less (k:=i) (by omega);refine ajx anF (by omega) (by omega) (by omega) λaT τ kS z7 σ ai=>?_;rw[show i+(n+1-i)=n+1 by omega]at ai⊢;have Eg:((cI xs).take (i*1)).length=i:=by rw[gQ,oE];omega
  have aoI:=Ki.ex σ;have Ee:a7 τ (du p c i 1) (cI (xs.drop i)):=by
   have:=(aB.cells.ex σ).slice c i n (by rw[oE];omega)
   rw[hc (by rw[ky,oE];omega)]at this;unfold cI at this⊢
   rwa[<-xx]at this
  refine aW (by omega) (aW (by omega) ?_);refine MR ai i aoI (by simp;omega) (by simp;omega) (by simp[Value.oneCell']) λaa bo cd=>?_;have J8:∀x,p=some x->x.block≠w.heap.size:=λx I=>by have:=(aB.typed I).2.2;omega
  have aol:a7 aa.drew (du p c i 1) (cI (xs.drop i)):=by
   refine a7.ex (η.drew aa) (Ee.aH cd λx I⟨y,ah,ψ⟩=>?_);cases ah;unfold du at I;split at I
   ·exact J8 x I ψ.symm
   ·cases p with
    |none=>cases I
    |some q=>
     simp only[iT,sa]at I;subst I;rw[x1]at ψ;exact J8 q rfl ψ.symm
  refine aW (by omega) (aW (by omega) (aW (by omega) (aW (by omega) ?_)));refine MR (bo.ex (η.drew aa)) (i+1) aol (by rw[oE,ky];omega) (by rw[oE,ky];omega) (N9 _) λaz cx cz=>?_;have rL:∀j,(∃x,some (⟨w.heap.size,0,none⟩:Addr)=some x/\x.block=j)->w.heap.size<=j:=λj⟨x,I,φ⟩=>by cases I;exact HU φ
  have iQ:η w az:=((σ.then cd rL).trans (η.drew aa)).then cz rL;have R1:List.take (i+1) (List.take i ((cI xs).take (i*1)++kS)++[Value.int .i64 v]++List.drop (i+[Value.int .i64 v].length) ((cI xs).take (i*1)++kS))++cI (xs.drop i)++List.drop (i+1+(cI (xs.drop i)).length) (List.take i ((cI xs).take (i*1)++kS)++[Value.int .i64 v]++List.drop (i+[Value.int .i64 v].length) ((cI xs).take (i*1)++kS))=cI (ins xs i v):=by
   have h1:List.take i ((cI xs).take (i*1)++kS)=cI (xs.take i):=by rw[oT (by omega),AF,ey,Nat.min_self];unfold cI;rw[vY]
   rw[h1];have ι:(cI (xs.take i)++[Value.int .i64 v]).length=i+1:=by rw[fe,oE,gQ];simp;omega
   have aG:∀(R:aU),R.length<=n-i->List.drop (i+1+(cI (xs.drop i)).length) (cI (xs.take i)++[Value.int .i64 v]++R)=[]:=λR ij=>qY (by rw[fe,ι,oE,ky];omega)
   rw[aG _ (by simp only[fe,ky,gQ,oE,k5,Fa,z7];omega),oT (by omega),hc (by omega),pn];unfold ins cI;simp
  rw[R1]at cx;exact χ.mk ⟨_,aT,rfl,cx.lower dW,iQ.aH _,.inr λx I=>by cases I;exact ew _⟩
 ·have jS:=dd jS;have hp:∃b,p=some ⟨b,0,none⟩:=by
   rcases aB.2.2 with⟨_,h⟩|⟨b,_,_,h,_⟩
   ·omega
   ·exact⟨b,h⟩
  obtain⟨b,rfl⟩:=hp;refine aW (by omega) (aW (by omega) (aW (by omega) (aW (by omega) ?_)));obtain⟨ys,El,aqD⟩:=aB.more (k:=n+1) (by omega) (by omega);have hblk:∃cur fr,w.heap[b]?=some (.cells cur 3 fr)/\cur.size≠0:=by
   rcases aB.2.2 with⟨h,_⟩|⟨gL,cur,fr,h,_,ψ,_,jq,_⟩
   ·cases h
   ·cases h;exact⟨cur,fr,ψ,by omega⟩
  obtain⟨cur,fr,ψ,S4⟩:=hblk;have BL:du (some (⟨b,0,none⟩:Addr)) c (i+1) 1=some ⟨b,if c=i+1 then 0 else i+1,none⟩:=by
   unfold du;split
   ·rfl
   ·simp[Addr.add_lit]
  rw[BL];refine alo func143 (by kernel_rfl) (by kernel_rfl) (by kernel_rfl) (t:=35) (r:=4) (e:=3) (by kernel_rfl) underlying35 asI aJ ψ S4 (ca _ rfl) ?_
  try dsimp only[dE]
  simp only[uO,yR,r9,vX];rw[<-BL];have Ee:a7 w.drew (du (some ⟨b,0,none⟩) c i 1) ((cI (xs.drop i))):=by
   have:=(aB.cells.ex (η.drew w)).slice c i n (by rw[oE];omega)
   rw[hc (by rw[ky,oE];omega)]at this;unfold cI at this⊢
   rwa[<-xx]at this
  refine aW (by omega) (aW (by omega) (aW (by omega) (aW (by omega) ?_)));refine MR (aqD.ex (η.drew w)) (i+1) Ee (by rw[oE,ky];omega) (by rw[oE,ky];omega) (N9 _) λba bS ec=>?_;have aoJ:a7 ba (some ⟨zd,0,none⟩) [.int .i64 v]:=(Ki.ex (η.drew w)).aH ec λx I⟨y,ah,ψ⟩=>by cases I;cases ah;exact ca _ rfl ψ.symm
  refine aW (by omega) (aW (by omega) ?_);refine MR bS i aoJ (by simp;omega) (by simp;omega) (by simp[Value.oneCell']) λbm er hA=>?_;have NP:(cI xs++ys).length=n+1:=by rw[fe,oE,El];omega
  have R1:∀A:aU,A.length=n+1->A.take i=cI (xs.take i)->List.take i (List.take (i+1) A++cI (xs.drop i)++List.drop (i+1+(cI (xs.drop i)).length) A)++[Value.int .i64 v]++List.drop (i+[Value.int .i64 v].length) (List.take (i+1) A++cI (xs.drop i)++List.drop (i+1+(cI (xs.drop i)).length) A)=cI (ins xs i v):=by
   intro A fb al6;have aD:List.drop (i+1+(cI (xs.drop i)).length) A=[]:=qY (by rw[oE,ky];omega);have h1:(List.take (i+1) A).length=i+1:=by rw[gQ];omega
   rw[aD,pn,oT (by omega),AF,qZ (by omega),al6,Cd (by simp;omega),qY (by simp;omega)];unfold ins cI;simp
  rw[R1 _ NP (by rw[oT (by rw[oE];omega)];unfold cI;rw[vY])]at er
  exact χ.mk ⟨_,c,rfl,er,(((η.drew w).aH _).fZ ec).fZ hA,.inl rfl⟩
structure hi where
 gH:Int
 blocks:Int
 free:an
 head:Int
 used:Int
structure Good(s:hi):Prop where
 gH:6<=s.gH/\s.gH<=24
 blocks:2<=s.blocks/\s.blocks<=16
 Fk:CH s.free
 free:∀x∈s.free,0<=x/\x<s.gH
 head:-1<=s.head/\s.head<s.gH
 apart:s.head∉s.free
 used:0<=s.used/\s.used<=s.blocks
def full(s:hi):Bool:=decide (s.head<0)||s.used==s.blocks
def room(s:hi)(k:Int):Bool:=decide (k>=0)&&(!full s||decide ((s.free.length:Int)>k))
def j5(s:hi):hi:=if full s then{s with head:=s.free.head?.getD 0,used:=0,free:=s.free.tail}else s
def next(s:hi)(k:Int):hi×Int×Int×Int:=
 if k<0 then(s,1,0,0)else if room s k then({j5 s with used:=(j5 s).used+1},0,(j5 s).head,(j5 s).used)else(s,9,0,0)
def place(k:Int)(l:an):an:=l.filter (λx=>decide (x<k))++k::l.filter λx=>!decide (x<k)
def nL(s:hi)(k:Int):hi×Int:=
 if k<0\/s.gH<=k then(s,1)else if k=s.head\/k∈s.free then(s,12)else({s with free:=place k s.free},0)
def Bt:hi->an->Option hi
 |s,[]=>some s
 |s,k::r=>if(nL s k).2=0 then Bt (nL s k).1 r else none
def Kz(a b:Int):hi:=⟨a,b,[],-1,0⟩
def may(a b:Int):Bool:=decide (6<=a)&&decide (a<=24)&&decide (2<=b)&&decide (b<=16)
def begun(a b:Int)(l:an):Option hi:=if may a b then Bt (Kz a b) l else none
theorem adQ:∀(l:an)(a b:Int),CH l->(∀x∈l,a<=x/\x<b)->a<=b->(l.length:Int)<=b-a
 |[],a,b,_,_,h=>by simp;omega
 |x::r,a,b,υ,aj,h=>by
  have I:=aj x (by simp);have h1:=List.pairwise_cons.1 υ
  have:=adQ r (x+1) b h1.2 (λy ah=>⟨by have:=h1.1 y ah;omega,(aj y (hW _ ah)).2⟩) (by omega)
  simp only[k5];omega
theorem Good.fT{s:hi}(h:Good s):s.free.length<=24:=by
 have:=adQ s.free 0 s.gH h.Fk h.free (by have:=h.gH;omega)
 have:=h.gH
 omega
theorem UB{k:Int}{l:an}{x:Int}:x∈place k l↔x=k\/x∈l:=by
 unfold place;rw[iG,fA,mv,mv];constructor
 ·rintro(h|h|h)
  ·exact .inr h.1
  ·exact .inl h
  ·exact .inr h.1
 ·rintro(h|h)
  ·exact .inr (.inl h)
  ·by_cases I:x<k
   ·exact .inl ⟨h,by simpa using I⟩
   ·exact .inr (.inr ⟨h,by simpa using I⟩)
theorem ari{k:Int}{l:an}(h:CH l)(hk:k∉l):CH (place k l):=by
 unfold CH place;rw[List.pairwise_append];refine⟨h.filter _,List.pairwise_cons.2 ⟨λy ah=>?_,h.filter _⟩,λa aQ b ψ=>?_⟩
 ·obtain⟨h1,ι⟩:=mv.1 ah;have ι:¬y<k:=by simpa using ι
  have:y≠k:=λe=>hk (e▸h1)
  omega
 ·obtain⟨h1,ι⟩:=mv.1 aQ;have ι:a<k:=by simpa using ι
  rcases fA.1 ψ with rfl|ψ
  ·exact ι
  ·obtain⟨aG,cq⟩:=mv.1 ψ;have cq:¬b<k:=by simpa using cq
   omega
theorem ao3{l:an}{i:Nat}{k:Int}(h1:∀x∈l.take i,x<k)(ι:∀x∈l.drop i,k<=x):ins l i k=place k l:=by
 unfold ins place;have aO:l.filter (λx=>decide (x<k))=l.take i:=by
  conv=>lhs;rw[<-yT i l]
  rw[B9,O1.2 λx I=>by simpa using h1 x I,Pb.2 λx I=>by simpa using ι x I,pn]
 have bE:l.filter (λx=>!decide (x<k))=l.drop i:=by
  conv=>lhs;rw[<-yT i l]
  have ar:(l.take i).filter (λx=>!decide (x<k))=[]:=Pb.2 λx I=>by simpa using h1 x I
  have a2:(l.drop i).filter (λx=>!decide (x<k))=l.drop i:=O1.2 λx I=>by simpa using ι x I
  rw[B9,ar,a2,te]
 rw[aO,bE]
theorem arh(k:Int)(l:an):(place k l).length=l.length+1:=by
 unfold place;rw[fe,k5]
 induction l with
 |nil=>rfl
 |cons x r ch=>
  rw[List.filter_cons,List.filter_cons];by_cases h:x<k
  ·simp only[h,decide_true,oR,uO,vV,qW,k5];omega
  ·simp only[h,decide_false,oR,yR,vV,qW,k5];omega
theorem ZQ{s:hi}(h:Good s)(k:Int):Good (nL s k).1:=by
 unfold nL;split
 ·exact h
 ·split
  ·exact h
  ·rename_i h1 ι;have hk:k∉s.free:=λe=>ι (.inr e);refine⟨h.gH,h.blocks,ari h.Fk hk,λx I=>?_,h.head,λe=>?_,h.used⟩
   ·rcases UB.1 I with rfl|I
    ·dsimp only;omega
    ·exact h.free x I
   ·rcases UB.1 e with e|e
    ·exact ι (.inl e.symm)
    ·exact h.apart e
theorem Sn{s:hi}(h:Good s){k:Int}(hk:0<=k)(υ:room s k=true)(bg:full s=true):∃x r,s.free=x::r:=by
 cases aj:s.free with
 |nil=>simp[room,bg,aj]at υ;omega
 |cons x r=>exact⟨x,r,rfl⟩
theorem P0{s:hi}(h:Good s){k:Int}(hk:0<=k)(υ:room s k=true):Good (j5 s)/\0<=(j5 s).head/\(j5 s).used<(j5 s).blocks/\(j5 s).gH=s.gH/\(j5 s).blocks=s.blocks:=by
 unfold j5;cases bg:full s with
 |true=>
  obtain⟨x,r,aj⟩:=Sn h hk υ bg;simp only[oR,aj,List.head?_cons,OY,List.tail_cons];have kj:=h.Fk;rw[aj]at kj;have h1:=List.pairwise_cons.1 kj;have I:=h.free x (by rw[aj];simp);have ψ:=h.blocks;refine⟨⟨h.gH,h.blocks,h1.2,λy ah=>h.free y (by rw[aj];exact hW _ ah),by((try dsimp only);omega),λe=>?_,by((try dsimp only);omega)⟩,I.1,by((try dsimp only);omega),by trivial,by trivial⟩
  have:=h1.1 x e
  omega
 |false=>
  simp only[vV,qW];unfold full at bg;rw[OV]at bg;have h1:¬s.head<0:=by simpa using bg.1
  have ι:¬s.used=s.blocks:=by simpa using bg.2
  have:=h.used
  exact⟨h,by omega,by omega,by trivial,by trivial⟩
theorem ap2{s:hi}(h:Good s)(k:Int):Good (next s k).1:=by
 unfold next
 split
 ·exact h
 ·split
  ·rename_i hk υ;obtain⟨h1,ι,aG,cq,db⟩:=P0 h (by omega) υ;exact⟨h1.gH,h1.blocks,h1.Fk,h1.free,h1.head,h1.apart,by have:=h1.used;dsimp only;omega⟩
  ·exact h
theorem ap1{a b:Int}(h:may a b=true):Good (Kz a b):=by simp only[may,kx,po]at h;exact⟨⟨h.1.1.1,h.1.1.2⟩,⟨h.1.2,h.2⟩,List.Pairwise.nil,λx I=>(by cases I),(by simp[Kz];omega),λe=>(by cases e),(by simp[Kz];omega)⟩
structure zq(w:World)(B ps:Nat)(s:hi)(pf:J)(c:Nat):Prop where
 cell:μ w B tB 5 (some ⟨ps,0,none⟩) 1 1 [.int .i64 s.gH,.int .i64 s.blocks,.slice pf s.free.length c,.int .i64 s.head,.int .i64 s.used]
 fr:μ w B 3 1 pf s.free.length c (cI s.free)
def I4(ps:Nat)(pf:J)(i:Nat):Prop:=i=ps\/∃x,pf=some x/\x.block=i
def ll(w:World)(B ps:Nat)(s:hi)(D:bf):Prop:=∃pf c,zq w B ps s pf c/\∀i,D i↔I4 ps pf i
theorem zq.aH{w w':World}{S:bf}{B ps:Nat}{s:hi}{pf:J}{c:Nat}(h:zq w B ps s pf c)(hk:Kp w w' S)(ω:∀i,I4 ps pf i->¬S i):zq w' B ps s pf c:=
 ⟨h.cell.aH hk λx I=>by cases I;exact ω _ (.inl rfl),h.fr.aH hk λx I=>ω _ (.inr ⟨x,I,rfl⟩)⟩
theorem zq.ex{w w':World}{B ps:Nat}{s:hi}{pf:J}{c:Nat}(h:zq w B ps s pf c)(hk:η w w'):zq w' B ps s pf c:=h.aH hk λ_ _ h=>h
theorem ll.typed{w:World}{B ps:Nat}{s:hi}{D:bf}(h:ll w B ps s D){i:Nat}(o:D i):(Typed w tB i\/Typed w 3 i)/\B<=i/\i<w.heap.size:=by
 obtain⟨pf,c,h,b4⟩:=h;rcases(b4 i).1 o with rfl|⟨x,I,rfl⟩
 ·exact⟨.inl (h.cell.typed rfl).1,(h.cell.typed rfl).2⟩
 ·exact⟨.inr (h.fr.typed I).1,(h.fr.typed I).2⟩
theorem ll.aH{w w':World}{S:bf}{B ps:Nat}{s:hi}{D:bf}(h:ll w B ps s D)(hk:Kp w w' S)(ω:∀i,D i->¬S i):ll w' B ps s D:=by obtain⟨pf,c,h,b4⟩:=h;exact⟨pf,c,h.aH hk λi o=>ω i ((b4 i).2 o),b4⟩
theorem ll.ex{w w':World}{B ps:Nat}{s:hi}{D:bf}(h:ll w B ps s D)(hk:η w w'):ll w' B ps s D:=h.aH hk λ_ _ h=>h
def Gq(w:World)(B ps:Nat)(s:hi)(D:bf)(w':World):Prop:=∃bb,ll w' B ps s bb/\Kp w w' D/\∀i,bb i->D i\/w.heap.size<=i
theorem ZS{w:World}{B ps:Nat}{s:hi}{D:bf}(h:ll w B ps s D):FP.C (some ⟨ps,0,none⟩) w (χ λv w'=>v=.bool (full s)/\η w w'):=by
 apply FP.ok;unfold FP.main;obtain⟨pf,c,h,b4⟩:=h
 try dsimp only[bk]
 simp only[dv];refine⟨_,h.cell.at (j:=3) rfl,bz (λπ a1=>?_) λπ=>?_⟩
 ·exact χ.mk ⟨by unfold full;rw[π];rfl,η.drewN _ _⟩
 ·refine⟨_,h.cell.at (j:=4) rfl,_,h.cell.at (j:=1) rfl,λa1=>?_⟩;exact χ.mk ⟨by unfold full;rw[π];rfl,η.drewN _ _⟩
theorem Xw{w:World}{B ps:Nat}{s:hi}{D:bf}(h:ll w B ps s D)(k:Int):FO.C (some ⟨ps,0,none⟩) k w (χ λv w'=>v=.bool (room s k)/\η w w'):=by
 apply FO.ok;unfold FO.main;rw[cond_pos (by rfl)]
 try dsimp only[bk]
 unfold room;refine bz (λhk=>?_) λhk=>?_
 ·rw[hk];refine κ.use (ZS h) ?_;rintro _ γ ⟨rfl,ζ⟩
  try dsimp only[dE]
  obtain⟨pf,c,h,b4⟩:=h.ex ζ;cases bg:full s with
  |false=>
   rw[cond_pos (by rfl)];exact χ.mk ⟨by simp,ζ⟩
  |true=>
   rw[cond_neg (by rfl)];simp only[dv];refine⟨_,_,_,h.cell.at (j:=2) rfl,?_⟩;exact χ.mk ⟨by simp,ζ⟩
 ·rw[hk];exact χ.mk ⟨rfl,η.refl w⟩
theorem Xi{w:World}{B ps:Nat}{s:hi}{D:bf}(h:ll w B ps s D)(bJ:Good s):FN.C (some ⟨ps,0,none⟩) w (χ λv w'=>η w w'/\∃p c,v=.tuple #[.slice p s.free.length c,.int .i64 s.head]/\μ w' w.heap.size 3 1 p s.free.length c (cI s.free)):=by
 apply FN.ok;unfold FN.main;have wY:=η.drew w;obtain⟨pf,c,h,b4⟩:=h.ex wY
 try dsimp only[mI,bk,iY]
 simp only[dv];have JV:=bJ.fT;refine⟨_,_,_,h.cell.at (j:=2) rfl,_,h.cell.at (j:=3) rfl,?_⟩;refine κ.use (IU pf s.free.length c (cI s.free) w.drew h.fr.cells (oE _) (by omega) (N9 _)) ?_;rintro _ γ ⟨bT,aT,rfl,ζ,ρ⟩
 try dsimp only[dY]
 exact⟨(h.cell.ex ζ).at (j:=3) rfl,χ.mk ⟨wY.trans ζ,bT,aT,rfl,ρ⟩⟩
theorem L9(n:Int)(w:World):x7.C n w (χ λv w'=>v=.bool (decide (n>=1)&&decide (n<=16))/\w'=w):=by
 apply x7.ok;unfold x7.main;refine bz (λπ=>?_) λπ=>?_
 ·exact χ.mk ⟨by rw[π];rfl,rfl⟩
 ·exact χ.mk ⟨by rw[π];rfl,rfl⟩
theorem QR{h u b:Int}(w:World)(dS:0<=h/\h<24)(ψ:2<=b/\b<=16)(hu:0<=u/\u<b):x5.C (h*b+u) b w (χ λv w'=>v=.tuple #[.complex .f64 (cp h) (cp u),.int .i64 0]/\η w w'):=by
 apply x5.ok;unfold x5.main;refine κ.use (L9 b w) ?_;rintro _ γ ⟨rfl,rfl⟩
 try dsimp only[dE]
 rw[cond_neg (by simp;omega)];have aD:0<=h*b:=yU dS.1 (by omega);have h1:h*b<=23*b:=HZ (by omega) (by omega);have af:(h*b+u)/b=h:=by rw[Int.add_comm,VC _ _ (by omega),K1 hu.1 hu.2,Int.zero_add]
 have hm:(h*b+u)%b=u:=by rw[Int.add_comm,Int.add_mul_emod_self_right];exact K7 hu.1 hu.2
 rw[iD (by omega),bY (x:=24*b) (by omega) (by omega),iD (by omega)];refine aW (by omega) (aW (by omega) λa1=>?_);rw[Int.tdiv_eq_ediv_of_nonneg (by omega),H9 (by omega),af,hm,bY (by omega) (by omega)];exact χ.mk ⟨rfl,η.drewN _ _⟩
theorem Xu{w:World}{B ps:Nat}{s:hi}{pf:J}{c:Nat}(h:zq w B ps s pf c)(bJ:Good s)(aD:0<=s.head)(hu:s.used<s.blocks){S:Value->ao}
  (ep:∀w',zq w' B ps {s with used:=s.used+1} pf c->Kp w w' (λi=>i=ps)->S (.tuple #[.complex .f64 (cp s.head) (cp s.used),.int .i64 0]) w'):px.bP (some ⟨ps,0,none⟩) w (χ S):=by
 unfold px.bP;have wY:=η.drew w;have h:=h.ex wY;have ψ:=bJ.blocks;have ω:=bJ.gH;have dS:=bJ.head;have TT:=bJ.used;have D5:0<=s.head*s.blocks:=yU aD (by omega);have BE:s.head*s.blocks<=23*s.blocks:=HZ (by omega) (by omega)
 try dsimp only[bk]
 simp only[dv];refine⟨_,h.cell.at (j:=3) rfl,_,h.cell.at (j:=1) rfl,_,h.cell.at (j:=4) rfl,_,h.cell.at (j:=1) rfl,?_⟩;rw[bY (x:=s.head*s.blocks) (by omega) (by omega),bY (x:=s.head*s.blocks+s.used) (by omega) (by omega)];refine κ.use (QR w.drew ⟨aD,by omega⟩ ψ ⟨TT.1,hu⟩) ?_;rintro _ γ ⟨rfl,ζ⟩
 try dsimp only[bX,cC,cD,bk,bH,rE]
 have h1:=h.ex ζ;refine⟨_,h1.cell.at (j:=4) rfl,?_⟩;rw[bY (x:=s.used+1) (by omega) (by omega)];refine h1.cell.da (j:=4) (by show 4<1*5;omega) rfl λτ bP ai=>?_;have t57:∀i,i=ps->Typed γ tB i:=λi o=>o▸(h1.cell.typed rfl).1;exact χ.mk (ep τ ⟨ai,h1.fr.cB bP tB t57 (by decide)⟩ (((wY.trans ζ).aH _).fZ bP))
theorem air{w:World}{B ps:Nat}{s:hi}{D:bf}(h:ll w B ps s D)(bJ:Good s)(dW:B<=w.heap.size)(k:Int):px.C (some ⟨ps,0,none⟩) k w (χ λv w'=>v=.tuple #[.complex .f64 (cp (next s k).2.2.1) (cp (next s k).2.2.2),.int .i64 (next s k).2.1]/\Gq w B ps (next s k).1 D w'):=by
 apply px.ok;unfold px.main
 try dsimp only[mI,iY]
 have same:∀w',η w w'->Gq w B ps s D w':=λw' x=>⟨D,h.ex x,x.aH _,λi o=>.inl o⟩;unfold px.a1 next
 refine bz (λhk=>?_) λhk=>?_
 ·have hk:=b7 hk;rw[aS hk];exact χ.mk ⟨by simp only[wM],same _ (η.refl w)⟩
 have hk:=dd hk;rw[aM hk];refine κ.use (Xw h k) ?_;rintro _ γ ⟨rfl,ζ⟩
 try dsimp only[bk,dE]
 cases υ:room s k with
 |false=>
  rw[aM (by decide),cond_pos (by rfl)];exact χ.mk ⟨by simp only[wM],same _ ζ⟩
 |true=>
  rw[aS rfl,cond_neg (by rfl)];obtain⟨g1,g2,g3,g4,g5⟩:=P0 bJ (by omega) υ;refine κ.use (ZS (h.ex ζ)) ?_;rintro _ τ ⟨rfl,σ⟩
  try dsimp only[dE]
  have c7:=ζ.trans σ;cases bg:full s with
  |false=>
   try dsimp only[iY]
   have aP:j5 s=s:=by unfold j5;rw[bg,aM (by decide)]
   rw[aP]at g1 g2 g3⊢;obtain⟨pf,c,ι,b4⟩:=h.ex c7;refine Xu ι g1 g2 g3 λaa aG cd=>⟨rfl,D,⟨pf,c,aG,b4⟩,(c7.aH _).fZ (cd.mono λi _ o=>(b4 i).2 (.inl o)),λi o=>.inl o⟩
  |true=>
   try dsimp only[Bp]
   obtain⟨x,r,aj⟩:=Sn bJ (by omega) υ bg;have aP:j5 s={s with head:=x,used:=0,free:=r}:=by unfold j5;rw[bg,aS rfl,aj];rfl
   rw[aP]at g1 g2 g3⊢;have wY:=η.drew τ;have gb:=c7.trans wY;obtain⟨pf,c,aG,b4⟩:=h.ex gb;generalize τ.drew=aa at aG gb⊢;obtain⟨a,rfl,JP⟩:=aG.fr.cells.one (v:=.int .i64 x) (by rw[aj];rfl);have hlen:s.free.length=r.length+1:=by rw[aj];rfl
   have JV:=bJ.fT;simp only[dv];refine⟨_,_,_,aG.cell.at (j:=2) rfl,aW (by omega) ⟨x,JP,_,_,_,aG.cell.at (j:=2) rfl,aW (by omega) ?_⟩⟩;have Ee:a7 aa (du (some a) c 1 1) (cI r):=by
    have axq:=aG.fr.2.1
    have:=aG.fr.cells.slice c 1 r.length (by rw[oE];omega)
    rw[aj]at this;unfold cI at this⊢;rw[xw,List.drop_succ_cons,Pa,hc (by simp)]at this;exact this
   refine κ.use (IU _ (s.free.length-1) (c-1) (cI r) aa Ee (by rw[oE];omega) (by omega) (N9 _)) ?_;rintro _ az ⟨eg,hs,rfl,aA,cx⟩
   try dsimp only[dY]
   have cq:=aG.ex aA;refine⟨Kp.cell aA JP λh=>h,cq.cell.at (j:=2) rfl,?_⟩;refine cq.cell.da (j:=3) (by show 3<1*5;omega) rfl λaE dN cu=>?_;refine cu.da (j:=4) (by show 4<1*5;omega) rfl λba ec bS=>?_;refine bS.da (j:=2) (by show 2<1*5;omega) rfl λbm hA er=>?_;have tO:Kp az bm λi=>i=ps:=(dN.fZ ec).fZ hA;have t57:∀i,i=ps->Typed az tB i:=λi o=>o▸(cq.cell.typed rfl).1;have EG:=(cx.lower (fY dW gb.size)).cB tO tB t57 (by decide);rw[show s.free.length-1=r.length by omega]at er EG;have aii:Kp w bm D:=((gb.trans aA).aH _).fZ (tO.mono λi _ o=>(b4 i).2 (.inl o));refine Xu (s:={s with head:=x,used:=0,free:=r}) (pf:=eg) (c:=hs) ⟨er,EG⟩ g1 g2 g3 λb5 dr fL=>⟨rfl,I4 ps eg,⟨eg,hs,dr,λi=>mR⟩,aii.fZ (fL.mono λi _ o=>(b4 i).2 (.inl o)),λi o=>?_⟩;rcases o with o|⟨y,ah,o⟩
   ·exact .inl ((b4 i).2 (.inl o))
   ·have:=(cx.typed ah).2.1
    have:=gb.size
    exact .inr (by omega)
theorem Xh{w:World}{B ps:Nat}{s:hi}{D:bf}(h:ll w B ps s D)(bJ:Good s)(dW:B<=w.heap.size)(k:Int):sh.C (some ⟨ps,0,none⟩) k w (χ λv w'=>v=.int .i64 (nL s k).2/\Gq w B ps (nL s k).1 D w'):=by
 apply sh.ok;unfold sh.main
 try dsimp only[mI,bk,iY]
 have same:∀w',η w w'->Gq w B ps s D w':=λw' x=>⟨D,h.ex x,x.aH _,λi o=>.inl o⟩;have bad:(k<0\/s.gH<=k)->sh.a1 (some ⟨ps,0,none⟩) k true w (χ λv w'=>v=.int .i64 (nL s k).2/\Gq w B ps (nL s k).1 D w'):=λhk=>by
  unfold sh.a1 nL
  try dsimp only[bk,Bp]
  rw[aS hk];exact χ.mk ⟨rfl,same _ (η.refl w)⟩
 obtain⟨pf,c,h1,b4⟩:=h;have h:ll w B ps s D:=⟨pf,c,h1,b4⟩;refine bz (λhk=>bad (.inl (b7 hk))) λhk=>?_;have hk:=dd hk;refine⟨_,h1.cell.at (j:=0) rfl,?_⟩;by_cases ni:k>=s.gH
 ·rw[bB ni];exact bad (.inr ni)
 rw[iy ni];have ni:¬(k<0\/s.gH<=k):=by omega
 unfold sh.a1 nL;rw[aM ni]
 try dsimp only[bk,iY]
 simp only[dv];refine⟨_,h1.cell.at (j:=3) rfl,bz (λdS=>?_) λdS=>?_⟩
 ·have dS:k=s.head:=by simpa using dS
  rw[aS (.inl dS)];exact χ.mk ⟨rfl,same _ (η.refl w)⟩
 have dS:¬k=s.head:=by simpa using dS
 have JV:=bJ.fT;refine⟨_,_,_,h1.cell.at (j:=2) rfl,?_⟩;refine κ.use (W5 h1.fr.cells rfl (by omega) k) ?_;rintro _ τ ⟨rfl,σ⟩
 try dsimp only[dE]
 refine bz (λπ=>?_) λπ=>?_
 ·rw[aS (.inr ((NA _ _).1 π))];exact χ.mk ⟨rfl,same _ σ⟩
 have π:k∉s.free:=λe=>by rw[(NA _ _).2 e]at π;cases π
 rw[aM (by rintro(e|e);exact dS e;exact π e)];have ι:=h1.ex σ;refine⟨_,_,_,ι.cell.at (j:=2) rfl,?_⟩;refine κ.use (aiH ι.fr.cells rfl (by omega) bJ.Fk k) ?_;rintro _ aa ⟨rfl,i,f,rfl,o,pb,NN⟩
 try dsimp only[bX,cC,cD,bk,dE,bH]
 refine⟨_,_,_,ι.cell.at (j:=2) rfl,?_⟩;rintro ae az rfl rfl;have aJ:(aa.alloc (.cells #[.int .i64 k] 3)).heap[aa.heap.size]?=some (.cells #[.int .i64 k] 3):=DY aa _;have aA:=η.alloc aa (.cells #[.int .i64 k] 3);generalize aa.alloc (.cells #[.int .i64 k] 3)=az at aJ aA⊢;have cq:=ι.ex aA;refine κ.use (aia cq.fr (fY dW (σ.trans aA).size) (by omega) o aJ λx I=>by have:=(ι.fr.typed I).2.2;omega) ?_;rintro _ aE ⟨fH,iC,rfl,cu,dN,an7⟩
 try dsimp only[dY]
 have t3:∀i,(∃x,pf=some x/\x.block=i)->Typed az 3 i:=λi⟨x,I,o⟩=>o▸(cq.fr.typed I).1;have YR:=cq.cell.cB dN 3 t3 (by decide);rw[ao3 pb NN]at cu;refine YR.da (j:=2) (by show 2<1*5;omega) rfl λba ec bS=>?_;have t57:∀i,i=ps->Typed aE tB i:=λi o=>o▸(YR.typed rfl).1;have uy:=arh k s.free;have cu:=cu.cB ec tB t57 (by decide);rw[<-uy]at cu bS;refine χ.mk ⟨rfl,I4 ps fH,⟨fH,iC,⟨bS,cu⟩,λi=>mR⟩,(((σ.trans aA).aH _).fZ (dN.mono λi _ o=>(b4 i).2 (.inr o))).fZ (ec.mono λi _ o=>(b4 i).2 (.inl o)),λi o=>?_⟩;rcases o with o|⟨y,ah,o⟩
 ·exact .inl ((b4 i).2 (.inl o))
 ·rcases an7 with e|e
  ·exact .inl ((b4 i).2 (.inr ⟨y,by rw[<-e];exact ah,o⟩))
  ·have:=e y ah
   have:=(σ.trans aA).size
   exact .inr (by omega)
theorem A1(a b:Int)(w:World):yO.C a b w (χ λv w'=>v=.int .i64 (if may a b then 0 else 1)/\η w w'):=by
 apply yO.ok;unfold yO.main;rintro δ γ rfl rfl;have ρ:=μ.new (w:=w) [.int .i64 a,.int .i64 b] b2;have ζ:=η.alloc w (.cells #[.int .i64 a,.int .i64 b] b2);have bad:may a b=false->χ (λv w'=>v=.int .i64 (if may a b then 0 else 1)/\η w w') (.returned (.int .i64 1)) (w.alloc (.cells #[.int .i64 a,.int .i64 b] b2)):=λh=>χ.mk ⟨by rw[h];rfl,ζ⟩;refine⟨_,ρ.at (j:=0) rfl,bz (λh=>bad ?_) λh=>⟨_,ρ.at (j:=0) rfl,bz (λι=>bad ?_) λι=>⟨_,ρ.at (j:=1) rfl,bz (λaG=>bad ?_) λaG=>⟨_,ρ.at (j:=1) rfl,bz (λcq=>bad ?_) λcq=>?_⟩⟩⟩⟩
 ·have:=b7 h;simp[may];omega
 ·have:=b7 ι;simp[may];omega
 ·have:=b7 aG;simp[may];omega
 ·have:=b7 cq;simp[may];omega
 ·have h:=dd h;have ι:=dd ι;have aG:=dd aG;have cq:=dd cq;have hm:may a b=true:=by simp[may];omega
  exact χ.mk ⟨by rw[hm];rfl,ζ⟩
theorem alM(s:hi)(k:Int)(r:an):Bt s (k::r)=if(nL s k).2=0 then Bt (nL s k).1 r else none:=rfl
theorem aiq{B θ:Nat}{w0:World}{p:J}{n c:Nat}{xs:an}(aj:a7 w0 p (cI xs))(ax:xs.length=n)(ψ:n<=100000000000000000){Ij:hi}(NL:Good Ij){w:World}{dV:bf}(XX:η w0 w)(dW:w0.heap.size<=B)(DO:B<=w.heap.size)(aD:ll w B θ Ij dV){S:Value->ao}
  (G4:∀w',Bt Ij xs=none->η w0 w'->S (.tuple #[.pointer none,.int .i64 1]) w')(dt:∀w' s D,Bt Ij xs=some s->Good s->ll w' B θ s D->η w0 w'->S (.tuple #[.pointer (some ⟨θ,0,none⟩),.int .i64 0]) w'):
  tA.bd θ p n c (n:Int) 0 w (χ S):=by
 refine⟨λt7 q m k t20 t21 w'=>t7=θ/\p=q/\n=m/\c=k/\t20=(n:Int)/\0<=t21/\t21<=(n:Int)/\η w0 w'/\B<=w'.heap.size/\∃s D,Good s/\ll w' B θ s D/\Bt s (xs.drop t21.toNat)=Bt Ij xs,λt7 q m k t20 t21 w'=>((n:Int)-t21).toNat,?_,?_⟩
 ·exact⟨rfl,rfl,rfl,rfl,rfl,by omega,by omega,XX,DO,Ij,dV,NL,aD,rfl⟩
 clear aD XX DO;rintro _ _ _ _ _ t γ ⟨rfl,rfl,rfl,rfl,rfl,aoz,rP,qA,Bw,s,D,bJ,h,dR⟩;unfold tA.δ;refine bz (λπ=>?_) λπ=>?_
 ·have π:=b7 π;obtain⟨x,I,_,NJ⟩:=ow (l:=xs) (i:=t.toNat) (by omega);obtain⟨a,rfl,JP⟩:=(aj.ex qA).many (j:=t.toNat) (uC I);rw[<-ey t.toNat]at JP;refine aW aoz (aW π ⟨x,JP,?_⟩);rw[NJ]at dR;rw[alM]at dR;refine κ.use (Xh h bJ Bw x) ?_;rintro _ τ ⟨rfl,gj,ι,bP,SH⟩
  try dsimp only[bH]
  have e4:η w0 τ:=qA.then bP λi o=>fY dW (h.typed o).2.1;refine bz (λhe=>?_) λhe=>?_
  ·have he:¬(nL s x).2=0:=by simpa using he
   rw[aM he]at dR;exact χ.mk (G4 τ dR.symm e4)
  ·have he:(nL s x).2=0:=by simpa using he
   rw[aS he]at dR;rw[bY (by omega) (by omega)];refine⟨⟨rfl,rfl,rfl,rfl,rfl,by omega,by omega,e4,fY Bw bP.size,_,gj,ZQ bJ x,ι,?_⟩,by((try dsimp only);omega)⟩;rw[show(t+1).toNat=t.toNat+1 by omega];exact dR
 ·have π:=dd π;rw[qY (by omega)]at dR;exact χ.mk (dt γ s D dR.symm bJ h qA)
theorem zo(a b:Int){p:J}{n c:Nat}{xs:an}(w:World)(aj:a7 w p (cI xs))(ax:xs.length=n)(ψ:n<=100000000000000000):
  tA.C a b p n c w (χ λv w'=>η w w'/\match begun a b xs with|none=>v=.tuple #[.pointer none,.int .i64 1]|some s=>∃ps,v=.tuple #[.pointer (some ⟨ps,0,none⟩),.int .i64 0]/\Good s/\∃D,ll w' w.heap.size ps s D):=by
 apply tA.ok;unfold tA.main;rintro δ γ rfl rfl;have ρ:=μ.new (w:=w) [.int .i64 a,.int .i64 b] b2;have ζ:=η.alloc w (.cells #[.int .i64 a,.int .i64 b] b2);generalize w.alloc (.cells #[.int .i64 a,.int .i64 b] b2)=γ at ρ ζ⊢;refine⟨#[.int .i64 a,.int .i64 b],rfl,ρ.cells,?_⟩;refine κ.use (A1 a b γ) ?_;rintro _ τ ⟨rfl,σ⟩
 try dsimp only[bH]
 have c7:=ζ.trans σ;unfold begun;cases hm:may a b with
 |false=>
  simp only[vV,qW];rw[cond_pos (by decide)];exact χ.mk ⟨c7,rfl⟩
 |true=>
  simp only[oR];rw[cond_neg (by decide)];refine⟨#[.int .i64 a,.int .i64 b],rfl,(ρ.ex σ).cells,?_⟩;have Te:Instr.fill (λi=>[(0,2),(2,1),(3,1),(4,1)].toArray[i]?) #[(Value.int .i64 0),(Value.int .i64 0),(Value.slice none 0 0),(Value.int .i64 0),(Value.int .i64 0)] [(0,(Value.agg #[.int .i64 a,.int .i64 b])),(2,(Value.int .i64 (-1)))]=some #[.int .i64 a,.int .i64 b,.slice none 0 0,.int .i64 (-1),.int .i64 0]:=by rfl
  refine gG Te ?_;rintro θ az rfl rfl;have cx:=μ.new (w:=τ) [.int .i64 a,.int .i64 b,.slice none 0 0,.int .i64 (-1),.int .i64 0] tB;have aA:=η.alloc τ (.cells #[.int .i64 a,.int .i64 b,.slice none 0 0,.int .i64 (-1),.int .i64 0] tB);have ω:ll (τ.alloc (.cells #[.int .i64 a,.int .i64 b,.slice none 0 0,.int .i64 (-1),.int .i64 0] tB)) w.heap.size τ.heap.size (Kz a b) (I4 τ.heap.size none):=⟨none,0,⟨cx.lower c7.size,μ.nil _ _ _ _⟩,λi=>mR⟩;generalize τ.alloc (.cells #[.int .i64 a,.int .i64 b,.slice none 0 0,.int .i64 (-1),.int .i64 0] tB)=az at ω aA⊢;have iQ:=c7.trans aA;refine aiq aj ax ψ (ap1 hm) iQ (ew _) iQ.size ω (λw' bg X=>?_) λw' s D bg bJ h X=>?_
  ·refine⟨X,?_⟩;rw[bg]
  ·refine⟨X,?_⟩;rw[bg];exact⟨_,rfl,bJ,D,h⟩
end Go.Proofs.YtcpdfhkhaekekaaGreat.G.bw
namespace Go.Proofs.YtcpdfhkhaekekaaGreat.G.cL
open Go.bO Go.RowKit
def hU(n:Nat)(V:List (Nat×Nat)):an:=(List.range n).map λi=>((V.filter λx=>x.1==i).length:Int)
theorem Dl(n:Nat)(V:List (Nat×Nat)):(hU n V).length=n:=by simp[hU]
theorem GG{n:Nat}(V:List (Nat×Nat)){i:Nat}(o:i<n):(hU n V)[i]?=some ((V.filter λx=>x.1==i).length:Int):=by simp[hU,o]
theorem aka{n:Nat}(V:List (Nat×Nat))(x:Nat×Nat)(I:x.1<n):(hU n V).set x.1 (((V.filter λy=>y.1==x.1).length:Int)+1)=hU n (V++[x]):=by
 apply qb;intro i;rw[List.getElem?_set];by_cases o:i<n
 ·rw[GG _ o,GG _ o,B9,fe];by_cases h:x.1=i
  ·subst h;rw[aS rfl,aS (by rw[Dl];exact o)];simp
  ·rw[aM h];simp[h]
 ·rw[aM (by omega),List.getElem?_eq_none (by rw[Dl];omega),List.getElem?_eq_none (by rw[Dl];omega)]
theorem avZ{s k:Int}{R:bR}(h:CJ s k R){x:Nat×Nat}(I:x∈used R):(x.1:Int)<s:=by
 have:=(U5 (s:=s) (k:=k)).1 h.2.2 x I
 unfold Hq at this;simp at this;by_cases h1:(x.1:Int)<s
 ·exact h1
 ·have h1:s<=(x.1:Int):=by omega
  have hk:2<=k:=by have:=h.1;unfold may at this;simp at this;omega
  have:=HZ h1 (show 0<=k by omega)
  omega
theorem aoY(n:Nat)(w:World):w.alloc (.cells (madeCells #[Value.int .i64 0] (n*1)) cj)=w.alloc (.cells ((List.replicate n (0:Int)).map (Value.int .i64)).toArray cj):=by
 congr 2;rw[ey];apply qc;apply List.ext_getElem
 ·simp[madeCells]
 ·intro i h1 ι;simp[madeCells,Nat.mod_one]
theorem akb(n:Nat):hU n []=List.replicate n 0:=by
 apply qb;intro i;by_cases o:i<n
 ·rw[GG _ o,List.getElem?_replicate,aS o];rfl
 ·rw[List.getElem?_eq_none (by rw[Dl];omega),List.getElem?_eq_none (by simp;omega)]
theorem W6{w:World}{R:bR}{ps:aU}(h:h2 w R ps){s k:Int}(hw:CJ s k R)(π:(gm (used R)).length<=4096):sH.C (bK R ps).toArray s k w (χ λv w'=>∃q d,v=.tuple #[.slice q s.toNat d,.int .i64 0]/\η w w'/\μ w' w.heap.size cj 1 q s.toNat d (bw.cI (hU s.toNat (lays (used R))))):=by
 have TN:6<=s/\s<=24:=by have:=hw.1;unfold may at this;simp at this;omega
 obtain⟨n,rfl⟩:=eH (show 0<=s by omega);apply sH.ok;unfold sH.main;rintro δ γ rfl rfl θ τ rfl rfl;have ρ:=μ.new (w:=w) (bK R ps) bU;have ζ:=η.alloc w (.cells (bK R ps).toArray bU);generalize w.alloc (.cells (bK R ps).toArray bU)=γ at ρ ζ⊢;have ai:=μ.new (w:=γ) [.int .i64 (n:Int),.int .i64 k] b2;have σ:=η.alloc γ (.cells #[.int .i64 (n:Int),.int .i64 k] b2);generalize γ.alloc (.cells #[.int .i64 (n:Int),.int .i64 k] b2)=τ at ai σ⊢;have ρ:=ρ.ex σ;have e4:=ζ.trans σ;have rH:(bK R ps).toArray.size=24:=by simp[bK,Ag,h.len,h.dx]
 refine⟨(bK R ps).toArray,rH,ρ.cells,#[.int .i64 (n:Int),.int .i64 k],rfl,ai.cells,?_⟩;refine κ.use (Q4 (h.ex e4) (n:Int) k) ?_;rintro _ aa ⟨⟨e,rfl,he⟩,ad⟩;obtain rfl:=he.2 hw
 try dsimp only[bH]
 rw[cond_neg (by decide)];have ρ:=ρ.ex ad;have ai:=ai.ex ad;have gJ:=e4.trans ad;refine⟨(n:Int),ai.at (j:=0) rfl,bL (bB (by omega)) (bL (bB (by omega)) (bL (bB (by omega)) ?_))⟩;rw[cy];rintro aF aE rfl rfl;rw[aoY];have bo:=μ.alloc (w:=aa) ((List.replicate n (0:Int)).map (Value.int .i64)) cj 1 n (by simp);have ak:=η.alloc aa (.cells ((List.replicate n (0:Int)).map (Value.int .i64)).toArray cj);have jd:w.heap.size<=aa.heap.size:=gJ.size;generalize aa.alloc (.cells ((List.replicate n (0:Int)).map (Value.int .i64)).toArray cj)=aE at bo ak⊢;generalize aa.heap.size=aF at bo jd⊢;have l8:=gJ.trans ak;have lv:aF<aE.heap.size:=(bo.ge rfl).2;refine⟨(bK R ps).toArray,rH,(ρ.ex ak).cells,?_⟩;refine κ.use (Xv (h.ex l8) hw.2.1 π) ?_;rintro _ ba ⟨q,d,fQ,bu,c2,rfl,aI,bS⟩
 try dsimp only[bX,cC,cD,mK,bk,bH,dY]
 have ks:=l8.trans aI;have bo:=(bo.ex aI).lower (B':=w.heap.size) jd;have He:∀x∈lays (used R),(x.1:Int)<n/\gF x:=λx I=>by have hu:=(HB (q8 h.ok)).1 I;exact⟨avZ hw hu,q8 h.ok x hu⟩
 rw[show((List.replicate n (0:Int)).map (Value.int .i64))=bw.cI (hU n [])by rw[akb];rfl]at bo;have anJ:(lays (used R)).length<=4096:=by rw[<-Kv λx=>kl (used R) x,Ht (λx I=>q8 h.ok x ((kl _ _).1 I)) (xl _)];exact π
 generalize lays (used R)=V at bS He anJ⊢;have awL:aE.heap.size<=ba.heap.size:=aI.size;unfold sH.bd;refine⟨λnv mV oY y3 y2 Cn t29 t30 w'=>some ⟨aF,0,none⟩=nv/\n=mV/\n=oY/\q=y3/\V.length=y2/\(V.length:Int)=t29/\0<=t30/\t30<=V.length/\η w w'/\μ w' w.heap.size cj 1 (some ⟨aF,0,none⟩) n n (bw.cI (hU n (V.take t30.toNat)))/\μ w' aE.heap.size eo 1 q V.length d (dx V),
  λ_ _ _ _ _ _ _ t30 _=>(V.length-t30).toNat,⟨rfl,rfl,rfl,rfl,rfl,rfl,by omega,by omega,ks,bo,bS⟩,?_⟩
 clear bo bS ks;rintro _ _ _ _ _ Cn _ t30 w' ⟨rfl,rfl,rfl,rfl,rfl,rfl,aD,h1,I,bo,bS⟩;unfold sH.δ;obtain⟨j,rfl⟩:=eH aD;rw[cy]at bo;refine bz (λφ=>?_) λφ=>?_
 ·have φ:=b7 φ;have eP:j<V.length:=by omega
  obtain⟨bM,dt⟩:=He _ (hF eP);have aO:(dx V)[j]?=some (dO (some V[j])):=by unfold dx;rw[List.getElem?_map,List.getElem?_eq_getElem eP];rfl
  obtain⟨a,aQ,r⟩:=bS.cells.many aO;refine bL (bB aD) (bL (bB φ) ?_);refine gG aQ ⟨ev (some V[j]),eE (some V[j]),by rw[cy,ey];exact r,?_⟩;refine gG (BY (n:=V[j].1) (by have:=dt.1;omega)).2.2.2.1 (bL (bB (by rw[Hp];omega)) (bL (bB (by rw[BP];omega)) (bL (bB (by omega)) (bL (bB bM) ?_))))
  try dsimp only[bk]
  have ox:(⟨aF,0,none⟩:Addr).add (((V[j].1:Nat):Int).toNat*1)=⟨aF,V[j].1,none⟩:=by rw[Addr.add_lit,cy];simp
  rw[ox];have qN:V[j].1<n:=by omega
  refine⟨_,bo.at (bw.uC (GG _ qN)),bL (bB (by omega)) (bL (bB bM) ?_)⟩;have hle:((V.take j).filter λx=>x.1==V[j].1).length<=4096:=fY (Vy _ _) (by rw[gQ];omega);rw[bY (x:=(((V.take j).filter λx=>x.1==V[j].1).length:Int)+1) (by omega) (by omega)];refine bo.da (j:=V[j].1) (by omega) rfl λb5 fL e6=>?_;have ka:(bw.cI (hU n (V.take j))).set V[j].1 (.int .i64 ((((V.take j).filter λx=>x.1==V[j].1).length:Int)+1))=bw.cI (hU n (V.take (j+1))):=by unfold bw.cI;rw[<-qX,aka _ _ qN,k6 eP]
  rw[bY (x:=(j:Int)+1) (by omega) (by omega)];refine⟨⟨rfl,rfl,rfl,rfl,rfl,rfl,by omega,by omega,I.then fL λi o=>by rw[o];exact(bo.ge rfl).1,?_,?_⟩,by((try dsimp only);omega)⟩
  ·show μ b5 _ _ _ _ _ _ (bw.cI (hU n (V.take (j+1))));rw[<-ka];exact e6
  ·exact bS.aH fL λx I o=>by have:=(bS.ge I).1;omega
 ·have φ:=dd φ
  have:V.take j=V:=hc (by omega)
  rw[this]at bo;exact χ.mk ⟨some ⟨aF,0,none⟩,n,rfl,I,bo⟩
def Aa(V:List (Nat×Nat))(but:an)(i:Nat):Bool:=((V.filter λx=>x.1==i).length==0)&&!bw.has but (i:Int)
def kt(n:Nat)(V:List (Nat×Nat))(but:an):an:=((List.range n).filter (Aa V but)).map λ(i:Nat)=>(i:Int)
theorem ZR(n:Nat)(V:List (Nat×Nat))(but:an):kt (n+1) V but=kt n V but++if Aa V but n then[(n:Int)]else[]:=by
 unfold kt;rw[uP,B9,q0];congr 1;by_cases h:Aa V but n=true
 ·simp[h]
 ·simp[h]
theorem Sm(n:Nat)(V:List (Nat×Nat))(but:an):(kt n V but).length<=n:=by unfold kt;rw[jV];exact fY (Vy _ _) (by simp)
theorem QI{w:World}{R:bR}{ps:aU}(h:h2 w R ps){s k:Int}(hw:CJ s k R)(π:(gm (used R)).length<=4096){bp:J}{bn bc:Nat}{but:an}(ψ:a7 w bp (bw.cI but))(amP:but.length=bn)(ej:bn<=1000):
  sI.C (bK R ps).toArray s k bp bn bc w (χ λv w'=>∃q d,v=.tuple #[.slice q (kt s.toNat (lays (used R)) but).length d,.int .i64 0]/\η w w'/\μ w' w.heap.size cj 1 q (kt s.toNat (lays (used R)) but).length d (bw.cI (kt s.toNat (lays (used R)) but))):=by
 have TN:6<=s/\s<=24:=by have:=hw.1;unfold may at this;simp at this;omega
 obtain⟨n,rfl⟩:=eH (show 0<=s by omega);apply sI.ok;unfold sI.main;rintro δ γ rfl rfl θ τ rfl rfl;have ρ:=μ.new (w:=w) (bK R ps) bU;have ζ:=η.alloc w (.cells (bK R ps).toArray bU);generalize w.alloc (.cells (bK R ps).toArray bU)=γ at ρ ζ⊢;have ai:=μ.new (w:=γ) [.int .i64 (n:Int),.int .i64 k] b2;have σ:=η.alloc γ (.cells #[.int .i64 (n:Int),.int .i64 k] b2);generalize γ.alloc (.cells #[.int .i64 (n:Int),.int .i64 k] b2)=τ at ai σ⊢;have ρ:=ρ.ex σ;have e4:=ζ.trans σ;have rH:(bK R ps).toArray.size=24:=by simp[bK,Ag,h.len,h.dx]
 refine⟨(bK R ps).toArray,rH,ρ.cells,#[.int .i64 (n:Int),.int .i64 k],rfl,ai.cells,?_⟩;refine κ.use (W6 (h.ex e4) hw π) ?_;rintro _ aa ⟨q,d,rfl,ad,bo⟩
 try dsimp only[bX,cC,cD,bk,bH,dY]
 rw[cond_neg (by decide)];rw[cy]at bo⊢;have gJ:=e4.trans ad;have nM:(lays (used R)).length<=4096:=by rw[<-Kv λx=>kl (used R) x,Ht (λx I=>q8 h.ok x ((kl _ _).1 I)) (xl _)];exact π
 generalize lays (used R)=V at bo nM⊢;unfold sI.bd;refine⟨λe8 e0 fN e7 eV fi Iu It Lz t23 t24 w'=>bp=e8/\bn=e0/\q=Iu/\n=It/\(n:Int)=t23/\0<=t24/\t24<=n/\η w w'/\η aa w'/\eV=(kt t24.toNat V but).length/\μ w' aa.heap.size cj 1 e7 eV fi (bw.cI (kt t24.toNat V but)),
  λ_ _ _ _ _ _ _ _ _ _ t24 _=>(n-t24).toNat,⟨rfl,rfl,rfl,rfl,rfl,by omega,by omega,gJ,η.refl _,rfl,μ.nil aa aa.heap.size cj 1⟩,?_⟩
 rintro _ _ fN e7 eV fi _ _ Lz _ t24 w' ⟨rfl,rfl,rfl,rfl,rfl,aD,h1,I,nm,aj,ε⟩;unfold sI.δ;obtain⟨j,rfl⟩:=eH aD;rw[cy]at aj ε;have kY:IntKind.i64.wrap ((j:Int)+1)=((j+1:Nat):Int):=by rw[bY (by omega) (by omega)];rfl
 have vB:=Sm j V but;refine bz (λφ=>?_) λφ=>?_
 ·have φ:=b7 φ;have eP:j<n:=by omega
  obtain⟨a,aQ,r⟩:=(bo.ex nm).cells.many (bw.uC (GG V eP));refine bL (bB aD) (bL (bB φ) ?_);refine gG aQ ⟨_,by rw[cy,ey];exact r,?_⟩;rw[kY];have stay:Aa V but j=false->kt (j+1) V but=kt j V but:=λe=>by rw[ZR,e];simp
  refine bz (λNq=>?_) λNq=>?_
  ·refine κ.use (bw.W5 (ψ.ex I) amP (by omega) (j:Int)) ?_;rintro _ aE ⟨rfl,ak⟩
   try dsimp only[dE]
   have aL:((V.filter λx=>x.1==j).length==0)=true:=by simpa using Nq
   have cu:=ε.ex ak;cases dS:bw.has but (j:Int)with
   |true=>
    rw[uO,vX];have e:=stay (by unfold Aa;rw[dS];simp);refine⟨⟨rfl,rfl,rfl,rfl,rfl,by omega,by omega,I.trans ak,nm.trans ak,?_,?_⟩,by((try dsimp only);omega)⟩
    ·show eV=(kt (j+1) V but).length;rw[e];exact aj
    ·show μ aE _ _ _ _ _ _ (bw.cI (kt (j+1) V but));rw[e];exact cu
   |false=>
    rw[yR,r9];rintro ae bm rfl rfl;have aV:=η.alloc aE (.cells #[.int .i64 (j:Int)] cj);have nb:a7 (aE.alloc (.cells #[.int .i64 (j:Int)] cj)) (some ⟨aE.heap.size,0,none⟩) [.int .i64 (j:Int)]:=a7.alloc _ cj;generalize aE.alloc (.cells #[.int .i64 (j:Int)] cj)=bm at aV nb⊢;have My:=ak.trans aV;refine lp (ε.ex My) (nm.trans My).size [.int .i64 (j:Int)] nb rfl (λy ah=>by simp only[lB]at ah;subst ah;rfl) rfl (by omega) (by omega) λeg hs b5 e6 fL=>?_;have e:kt (j+1) V but=kt j V but++[(j:Int)]:=by rw[ZR];unfold Aa;rw[dS,aL];rfl
    have low:∀i,(∃x,e7=some x/\x.block=i)->aa.heap.size<=i:=λi⟨x,I,o⟩=>o▸(ε.ge I).1;refine⟨⟨rfl,rfl,rfl,rfl,rfl,by omega,by omega,(I.trans My).then fL λi o=>fY gJ.size (low i o),(nm.trans My).then fL low,?_,?_⟩,by((try dsimp only);omega)⟩
    ·show eV+1=(kt (j+1) V but).length;rw[e,fe,aj];rfl
    ·show μ b5 _ _ _ _ _ _ (bw.cI (kt (j+1) V but));rw[e]
     have:bw.cI (kt j V but++[(j:Int)])=bw.cI (kt j V but)++[.int .i64 (j:Int)]:=by simp[bw.cI]
     rw[this];exact e6
  ·have aL:((V.filter λx=>x.1==j).length==0)=false:=by
    cases aC:((V.filter λx=>x.1==j).length==0)with
    |false=>rfl
    |true=>
     have:(V.filter λx=>x.1==j).length=0:=by simpa using aC
     rw[this]at Nq;cases Nq
   have e:=stay (by unfold Aa;rw[aL];rfl);refine⟨⟨rfl,rfl,rfl,rfl,rfl,by omega,by omega,I,nm,?_,?_⟩,by((try dsimp only);omega)⟩
   ·show eV=(kt (j+1) V but).length;rw[e];exact aj
   ·show μ w' _ _ _ _ _ _ (bw.cI (kt (j+1) V but));rw[e];exact ε
 ·have φ:=dd φ;obtain rfl:j=n:=by omega
  subst aj;exact χ.mk ⟨e7,fi,rfl,I,ε.lower gJ.size⟩
theorem arQ{a b:Int}(h:0<=a/\a<=1048576/\1<=b/\b<=1048576)(w:World):Fi.C a b w (χ λv w'=>v=.bool true/\w'=w):=by apply Fi.ok;unfold Fi.main;rw[cond_pos (bB (by omega)),cond_pos (bB (by omega)),cond_pos (bB (by omega))];exact χ.mk ⟨by rw[bB (by omega)],rfl⟩
def MQ(a b:Int):Int:=if a<b then-1 else if b<a then 1 else 0
theorem ahI(a b:Int)(w:World):Dj.C a b w (χ λv w'=>v=.int .i64 (MQ a b)/\w'=w):=by
 apply Dj.ok;unfold Dj.main;refine κ.use (bw.QP a w) ?_;rintro _ γ ⟨rfl,aO⟩;obtain rfl:=aO.symm
 try dsimp only[dE,iY]
 refine κ.use (bw.QP b _) ?_;rintro _ τ ⟨rfl,bE⟩;obtain rfl:=bE.symm
 try dsimp only[dE,iY]
 unfold MQ;refine bz (λh=>?_) λh=>bz (λfU=>?_) λfU=>?_
 ·exact χ.mk ⟨by rw[aS (b7 h)],rfl⟩
 ·exact χ.mk ⟨by rw[aM (dd h),aS (b7 fU)],rfl⟩
 ·exact χ.mk ⟨by rw[aM (dd h),aM (dd fU)],rfl⟩
theorem akc{a b c d:Int}(aQ:0<=a/\a<=1048576)(ψ:1<=b/\b<=1048576)(π:0<=c/\c<=1048576)(af:1<=d/\d<=1048576)(w:World):Fh.C a b c d w (χ λv w'=>v=.int .i64 (MQ (a*d) (c*b))/\w'=w):=by
 apply Fh.ok;unfold Fh.main;have h1:0<=a*d:=yU aQ.1 (by omega);have ι:a*d<=1048576*1048576:=sd aQ.2 af.2 (by omega) (by omega);have aG:0<=c*b:=yU π.1 (by omega);have cq:c*b<=1048576*1048576:=sd π.2 ψ.2 (by omega) (by omega);rw[bY (x:=a*d) (by omega) (by omega),bY (x:=c*b) (by omega) (by omega)];refine κ.use (ahI _ _ w) ?_;rintro _ γ ⟨rfl,aO⟩;obtain rfl:=aO.symm
 try dsimp only[bH]
 exact χ.mk ⟨rfl,rfl⟩
theorem aiG{l b a:Int}(ψ:2<=b/\b<=16)(aj:0<=l/\l<=b)(aQ:0<=a/\a<65536)(w:World):Fg.C l b a w (χ λv w'=>v=.tuple #[.int .i64 ((b-l)*(a+1)),.int .i64 (b+l),.int .i64 0]/\w'=w):=by apply Fg.ok;unfold Fg.main;rw[cond_neg (iy (by omega)),cond_neg (iy (by omega)),cond_neg (iy (by omega)),cond_neg (iy (by omega)),cond_neg (iy (by omega)),cond_neg (iy (by omega))];have h1:0<=(b-l)*(a+1):=yU (by omega) (by omega);have ι:(b-l)*(a+1)<=16*65536:=sd (by omega) (by omega) (by omega) (by omega);rw[bY (x:=b-l) (by omega) (by omega),bY (x:=a+1) (by omega) (by omega),bY (x:=(b-l)*(a+1)) (by omega) (by omega),bY (x:=b+l) (by omega) (by omega)];exact χ.mk ⟨rfl,rfl⟩
def qH(os us:an):Nat->Nat
 |0=>0
 |k+1=>if MQ (os.getD k 0*us.getD (qH os us k) 0) (os.getD (qH os us k) 0*us.getD k 0)>0 then k else qH os us k
theorem MH(os us:an):∀{k n:Nat},k<=n->1<=n->qH os us k<n
 |0,n,_,h=>h
 |k+1,n,h,h1=>by
  unfold qH;split
  ·omega
  ·exact MH os us (by omega) h1
theorem DL{l:an}{i:Nat}(h:i<l.length):l[i]?=some (l.getD i 0):=by rw[List.getD_eq_getElem?_getD,List.getElem?_eq_getElem h];rfl
theorem ahD{w:World}{p q:J}{n c d:Nat}{os us:an}(aB:a7 w p (bw.cI os))(hu:a7 w q (bw.cI us))(TE:os.length=n)(ml:us.length=n)(ax:1<=n/\n<=4096)
  (an4:∀x∈os,0<=x/\x<=1048576)(TT:∀x∈us,1<=x/\x<=1048576):tg.C p n c q n d w (χ λv w'=>v=.tuple #[.int .i64 (qH os us n:Nat),.int .i64 0]/\η w w'):=by
 apply tg.ok;unfold tg.main;rw[cond_neg (by simp),cond_neg (by simp;omega),cond_neg (iy (by omega))];unfold tg.bd;refine⟨λcb b8 ck lW lV py t6 t24 t25 w'=>p=cb/\n=b8/\q=lW/\n=lV/\(n:Int)=t24/\0<=t25/\t25<=n/\t6=(qH os us t25.toNat:Nat)/\η w w',λ_ _ _ _ _ _ _ _ t25 _=>(n-t25).toNat,⟨rfl,rfl,rfl,rfl,rfl,by omega,by omega,rfl,η.refl w⟩,?_⟩;rintro _ _ ck _ _ py _ _ t25 w' ⟨rfl,rfl,rfl,rfl,rfl,aD,h1,rfl,I⟩;unfold tg.δ;obtain⟨j,rfl⟩:=eH aD;rw[cy];refine bz (λφ=>?_) λφ=>?_
 ·have φ:=b7 φ;have eP:j<n:=by omega
  have ψ:=MH os us (show j<=n by omega) ax.1;generalize wW:qH os us j=b at ψ⊢;have g:=λ{i:Nat}(o:i<n)(W:World)(e5:η w W)=>(aB.ex e5).many (bw.uC (DL (l:=os) (i:=i) (by omega)));have wO:=λ{i:Nat}(o:i<n)(W:World)(e5:η w W)=>(hu.ex e5).many (bw.uC (DL (l:=us) (i:=i) (by omega)));have ζ:=I.trans (η.drew w');have ro:=λ{i:Nat}(o:i<n)=>an4 _ (eZ (DL (l:=os) (i:=i) (by omega)));have Pn:=λ{i:Nat}(o:i<n)=>TT _ (eZ (DL (l:=us) (i:=i) (by omega)));have Na:j*1=j:=ey j;have M9:(((b:Nat):Int).toNat*1)=b:=by omega
  have fz:=bB aD;have MO:=bB φ;have YO:decide (0<=((b:Nat):Int))=true:=bB (by omega);have iR:decide (((b:Nat):Int)<((n:Nat):Int))=true:=bB (by omega);obtain⟨ar,aO,cG⟩:=g eP _ ζ;obtain⟨a2,bE,fM⟩:=wO eP _ ζ;refine bL fz (bL MO (gG aO ⟨_,by rw[Na];exact cG,bL fz (bL MO (gG bE ⟨_,by rw[Na];exact fM,?_⟩))⟩));refine κ.use (arQ ⟨(ro eP).1,(ro eP).2,(Pn eP).1,(Pn eP).2⟩ _) ?_;rintro _ γ ⟨rfl,zM⟩;obtain rfl:=zM.symm
  try dsimp only[dE]
  have σ:=ζ.trans (η.drew w'.drew);obtain⟨a3,gw,iU⟩:=g eP _ σ;obtain⟨a4,iZ,qd⟩:=wO eP _ σ;obtain⟨a5,h3,Ci⟩:=g ψ _ σ;obtain⟨aji,pR,arU⟩:=wO ψ _ σ;refine bL MO (gG gw ⟨_,by rw[Na];exact iU,bL fz (bL MO (gG iZ ⟨_,by rw[Na];exact qd,bL YO (bL iR (gG h3 ⟨_,by rw[M9];exact Ci,bL YO (bL iR (gG pR ⟨_,by rw[M9];exact arU,?_⟩))⟩))⟩))⟩);refine κ.use (akc (ro eP) (Pn eP) (ro ψ) (Pn ψ) _) ?_;rintro _ aa ⟨rfl,zM⟩;obtain rfl:=zM.symm
  try dsimp only[bH]
  have kY:IntKind.i64.wrap ((j:Int)+1)=((j+1:Nat):Int):=by rw[bY (by omega) (by omega)];rfl
  rw[kY];refine bz (λbJ=>?_) λbJ=>?_
  ·refine⟨⟨rfl,rfl,rfl,rfl,rfl,by omega,by omega,?_,σ⟩,by((try dsimp only);omega)⟩;show((j:Nat):Int)=(qH os us (j+1):Nat);unfold qH;rw[wW,aS (b7 bJ)]
  ·refine⟨⟨rfl,rfl,rfl,rfl,rfl,by omega,by omega,?_,σ⟩,by((try dsimp only);omega)⟩;show((b:Nat):Int)=(qH os us (j+1):Nat);unfold qH;rw[wW,aM (dd bJ)]
 ·have φ:=dd φ;obtain rfl:j=n:=by omega
  exact χ.mk ⟨rfl,I⟩
theorem aj6{w:World}{B q:Nat}{s k x:Int}(ε:μ w B b2 2 (some ⟨q,0,none⟩) 1 1 [.int .i64 s,.int .i64 k])(I:0<=x/\x<=k):Dh.C x q w (χ λv w'=>v=.bool false/\w'=w):=by apply Dh.ok;unfold Dh.main;rw[cond_neg (iy (by omega))];exact⟨k,ε.at (j:=1) rfl,χ.mk ⟨by rw[iy (by omega)],rfl⟩⟩
theorem ah8{w:World}{B q:Nat}{s k:Int}{p:J}{n c:Nat}{xs:an}(π:a7 w p (bw.cI xs))(ax:xs.length=n)(ψ:n<=100000)(ε:μ w B b2 2 (some ⟨q,0,none⟩) 1 1 [.int .i64 s,.int .i64 k])(I:∀x∈xs,0<=x/\x<=k):tw.C p n c q w (χ λv w'=>v=.int .i64 (-1)/\w'=w):=by
 apply tw.ok;unfold tw.main tw.bd;refine⟨λcb b8 ck t1 t7 t8 w'=>p=cb/\n=b8/\q=t1/\(n:Int)=t7/\0<=t8/\t8<=n/\w=w',λ_ _ _ _ _ t8 _=>(n-t8).toNat,⟨rfl,rfl,rfl,rfl,by omega,by omega,rfl⟩,?_⟩;rintro _ _ ck _ _ t8 _ ⟨rfl,rfl,rfl,rfl,aD,h1,rfl⟩;unfold tw.δ;obtain⟨j,rfl⟩:=eH aD;refine bz (λφ=>?_) λφ=>χ.mk ⟨rfl,rfl⟩;have φ:=b7 φ;have eP:j<xs.length:=by omega
 obtain⟨a,aQ,r⟩:=π.many (bw.uC (List.getElem?_eq_getElem eP));refine bL (bB aD) (bL (bB φ) (gG aQ ⟨_,by rw[cy,ey];exact r,?_⟩));refine κ.use (aj6 ε (I _ (hF eP))) ?_;rintro _ γ ⟨rfl,aO⟩;obtain rfl:=aO.symm
 try dsimp only[dE,iY]
 rw[bY (x:=(j:Int)+1) (by omega) (by omega)];exact⟨⟨rfl,rfl,rfl,rfl,by omega,by omega,rfl⟩,by((try dsimp only);omega)⟩
theorem akk{w:World}{s k:Int}(hm:bw.may s k=true){p:J}{n c:Nat}{xs:an}(π:a7 w p (bw.cI xs))(ax:xs.length=n)(ω:(n:Int)=s)(I:∀x∈xs,0<=x/\x<=k):Dg.C s k p n c w (χ λv w'=>v=.bool true/\η w w'):=by
 have hy:6<=s/\s<=24:=by unfold bw.may at hm;simp at hm;omega
 apply Dg.ok;unfold Dg.main;rintro δ γ rfl rfl;have ρ:=μ.new (w:=w) [.int .i64 s,.int .i64 k] b2;have ζ:=η.alloc w (.cells #[.int .i64 s,.int .i64 k] b2);generalize w.alloc (.cells #[.int .i64 s,.int .i64 k] b2)=γ at ρ ζ⊢;refine⟨#[.int .i64 s,.int .i64 k],rfl,ρ.cells,?_⟩;refine κ.use (bw.A1 s k γ) ?_;rintro _ τ ⟨rfl,σ⟩;rw[hm]
 try dsimp only[bH]
 rw[cond_pos (by decide)];have ρ:=ρ.ex σ;refine⟨s,ρ.at (j:=0) rfl,?_⟩;rw[cond_pos (by simpa using ω)];refine κ.use (S:=λv w'=>v=.bool false/\η τ w') ?_ ?_
 ·apply Ip.ok;unfold Ip.main;refine κ.use (ah8 (π.ex (ζ.trans σ)) ax (by omega) ρ I) ?_;rintro _ aa ⟨rfl,gw⟩;obtain rfl:=gw.symm
  try dsimp only[bH]
  exact χ.mk ⟨rfl,η.refl _⟩
 rintro _ az ⟨rfl,aA⟩
 try dsimp only[dE]
 exact χ.mk ⟨rfl,(ζ.trans σ).trans aA⟩
end Go.Proofs.YtcpdfhkhaekekaaGreat.G.cL
namespace Go.Proofs.YtcpdfhkhaekekaaGreat.G.eW
open Go.bO Go.RowKit cL
def I1(w:World)(q:J)(l:List ea):Prop:=(q=none/\l=List.replicate 8 none)\/∃b,q=some ⟨b,0,none⟩/\μ w 0 xI 8 (some ⟨b,0,none⟩) 1 1 (l.map dO)
def sB(w:World)(i:Nat):Prop:=Typed w tC i\/Typed w u0 i\/Typed w xI i
structure zt(w:World)(b n:Nat)(L:List ea)(p:J)(c:Nat)(qs:List J):Prop where
 size:1<=n/\n<=32
 len:L.length=8*qs.length
 many:qs.length=(n+7)/8
 ok:∀x∈L,kc x
 cell:μ w 0 tC 2 (some ⟨b,0,none⟩) 1 1 [.int .i64 (n:Int),.slice p qs.length c]
 row:μ w 0 u0 1 p qs.length c (qs.map Value.pointer)
 bl:∀(k:Nat)(q:J),qs[k]?=some q->I1 w q ((L.drop (8*k)).take 8)
def TabIs(w:World)(hE:J)(n:Nat)(L:List ea):Prop:=∃b p c qs,hE=some ⟨b,0,none⟩/\zt w b n L p c qs
theorem I1.aH{w w':World}{q:J}{l:List ea}(h:I1 w q l){S:bf}(k:Kp w w' S)(ω:∀i,S i->¬sB w i):I1 w' q l:=by
 rcases h with h|⟨b,aC,h⟩
 ·exact .inl h
 ·exact .inr ⟨b,aC,h.aH k λx I o=>ω _ o (.inr (.inr (h.typed I).1))⟩
theorem zt.aH{w w':World}{b n:Nat}{L:List ea}{p:J}{c:Nat}{qs:List J}(h:zt w b n L p c qs){S:bf}(k:Kp w w' S)(ω:∀i,S i->¬sB w i):zt w' b n L p c qs:=
 ⟨h.size,h.len,h.many,h.ok,h.cell.aH k λx I o=>ω _ o (.inl (h.cell.typed I).1),h.row.aH k λx I o=>ω _ o (.inr (.inl (h.row.typed I).1)),λi q aC=>(h.bl i q aC).aH k ω⟩
theorem TabIs.aH{w w':World}{hE:J}{n:Nat}{L:List ea}(h:TabIs w hE n L){S:bf}(k:Kp w w' S)(ω:∀i,S i->¬sB w i):TabIs w' hE n L:=by obtain⟨b,p,c,qs,e,h⟩:=h;exact⟨b,p,c,qs,e,h.aH k ω⟩
theorem zt.ex{w w':World}{b n:Nat}{L:List ea}{p:J}{c:Nat}{qs:List J}(h:zt w b n L p c qs)(x:η w w'):zt w' b n L p c qs:=h.aH x λ_ h=>h.elim
theorem TabIs.ex{w w':World}{hE:J}{n:Nat}{L:List ea}(h:TabIs w hE n L)(x:η w w'):TabIs w' hE n L:=h.aH x λ_ h=>h.elim
theorem TabIs.len{w:World}{hE:J}{n:Nat}{L:List ea}(h:TabIs w hE n L):1<=n/\n<=32/\n<=L.length/\∀x∈L,kc x:=by
 obtain⟨b,p,c,qs,e,h⟩:=h
 have:=h.len
 have:=h.many
 have:=h.size
 exact⟨by omega,by omega,by omega,h.ok⟩
theorem Wk{j:Nat}(h:j<1000):IntKind.i64.wrap (Int.tdiv (j:Int) 8)=((j/8:Nat):Int):=by have e:Int.tdiv (j:Int) 8=((j/8:Nat):Int):=rfl;rw[e,bY (by omega) (by omega)]
theorem agA(j:Nat):Int.tmod (j:Int) 8=((j%8:Nat):Int):=rfl
theorem Rg{w:World}{hE:J}{n:Nat}{L:List ea}(h:TabIs w hE n L){j:Nat}(φ:j<n):Gb.C hE (j:Int) w (χ λv w'=>v=dO (L.getD j none)/\w'=w):=by
 obtain⟨b,p,c,qs,rfl,h⟩:=h;have ax:=h.size;have hm:=h.many;have aj:=h.len;apply Gb.ok;unfold Gb.main
 try dsimp only[bk]
 rw[Wk (by omega),agA];simp only[dv];refine⟨p,_,c,h.cell.at (j:=1) rfl,aW (by omega) (aW (by omega) ?_)⟩;have hk:j/8<qs.length:=by omega
 obtain⟨a,aQ,r⟩:=h.row.cells.many (j:=j/8) (v:=.pointer qs[j/8]) (by rw[List.getElem?_map,List.getElem?_eq_getElem hk];rfl);refine gG aQ ⟨_,by rw[cy,ey];exact r,?_⟩;have ly:=h.bl (j/8) qs[j/8] (List.getElem?_eq_getElem hk);have mL:L.getD j none=((L.drop (8*(j/8))).take 8).getD (j%8) none:=by rw[List.getD_eq_getElem?_getD,List.getD_eq_getElem?_getD,List.getElem?_take,aS (by omega),List.getElem?_drop,show 8*(j/8)+j%8=j by omega]
 rcases ly with⟨aC,υ⟩|⟨θ,aC,ε⟩
 ·rw[aC,cond_neg (by rfl)];refine χ.mk ⟨?_,rfl⟩;rw[mL,υ,List.getD_eq_getElem?_getD,List.getElem?_replicate,aS (by omega)];rfl
 ·rw[aC,cond_pos (by rfl)];refine gG rfl (aW (by omega) (aW (by omega) ?_));simp only[dv];have bM:j%8<((L.drop (8*(j/8))).take 8).length:=by rw[gQ,ky];omega
  refine⟨_,_,by rw[cy,ey];exact ε.at (j:=j%8) (v:=dO (((L.drop (8*(j/8))).take 8)[j%8])) (by rw[List.getElem?_map,List.getElem?_eq_getElem bM];rfl),?_⟩;refine χ.mk ⟨?_,rfl⟩;rw[mL,List.getD_eq_getElem?_getD,List.getElem?_eq_getElem bM];rfl
theorem Wl{w:World}{hE:J}{n:Nat}{L:List ea}(h:TabIs w hE n L)(j:Int):Gc.C hE j w (χ λv w'=>v=.int .i64 (if 0<=j/\j<n then 0 else 5)/\w'=w):=by
 obtain⟨b,p,c,qs,rfl,h⟩:=h;apply Gc.ok;unfold Gc.main
 try dsimp only[mI,bk,iY]
 refine bz (λaD=>?_) λaD=>?_
 ·have aD:=b7 aD;rw[aM (by omega)];exact χ.mk ⟨rfl,rfl⟩
 ·have aD:=dd aD;refine⟨n,h.cell.at (j:=0) rfl,bz (λh1=>?_) λh1=>?_⟩
  ·have h1:=b7 h1;rw[aM (by omega)];exact χ.mk ⟨rfl,rfl⟩
  ·have h1:=dd h1;rw[aS (by omega)];exact χ.mk ⟨rfl,rfl⟩
theorem I5{w:World}{hE:J}{n:Nat}{L:List ea}(h:TabIs w hE n L):y9.C hE w (χ λv w'=>v=.int .i64 (n:Int)/\w'=w):=by
 obtain⟨b,p,c,qs,rfl,h⟩:=h;apply y9.ok;unfold y9.main
 try dsimp only[mI,bk,iY]
 exact⟨n,h.cell.at (j:=0) rfl,χ.mk ⟨rfl,rfl⟩⟩
theorem aiK(w:World):y9.C none w (χ λv w'=>v=.int .i64 0/\w'=w):=by
 apply y9.ok;unfold y9.main
 try dsimp only[Jo,Bp]
 exact χ.mk ⟨rfl,rfl⟩
def GW(q:ea):Value:=match q with
 |some x=>.tuple #[dO (some x),.bool true,.int .i64 0]
 |none=>.tuple #[.complex .f64 0 0,.bool false,.int .i64 0]
theorem ZW{L:List ea}(h:∀x∈L,kc x)(j:Nat):kc (L.getD j none):=by
 rw[List.getD_eq_getElem?_getD];cases aC:L[j]?with
 |none=>trivial
 |some q=>exact h q (eZ aC)
theorem xW{w:World}{hE:J}{n:Nat}{L:List ea}(h:TabIs w hE n L)(j:Int):F9.C hE j w (χ λv w'=>v=(if 0<=j/\j<n then GW (L.getD j.toNat none)else .tuple #[.complex .f64 0 0,.bool false,.int .i64 5])/\w'=w):=by
 apply F9.ok;unfold F9.main;refine κ.use (Wl h j) ?_;rintro _ _ ⟨rfl,rfl⟩
 try dsimp only[bH]
 by_cases φ:0<=j/\j<n
 ·rw[aS φ,aS φ,cond_neg (by rfl)];obtain⟨i,rfl⟩:=eH φ.1;refine κ.use (Rg h (j:=i) (by omega)) ?_;rintro _ _ ⟨rfl,rfl⟩;rw[cy];have dt:=ZW h.len.2.2.2 i;generalize L.getD i none=q at dt⊢;unfold dO
  try dsimp only[rE]
  rw[empty_eq dt];cases q with
  |none=>rw[cond_neg (by rfl)];exact χ.mk ⟨rfl,rfl⟩
  |some x=>rw[cond_pos (by rfl)];exact χ.mk ⟨rfl,rfl⟩
 ·rw[aM φ,aM φ,cond_pos (by rfl)];exact χ.mk ⟨rfl,rfl⟩
theorem zo{n:Nat}(h:1<=n/\n<=32)(w:World):y8.C (n:Int) w (χ λv w'=>∃hE,v=.tuple #[.pointer hE,.int .i64 0]/\η w w'/\TabIs w' hE n (List.replicate (8*((n+7)/8)) none)):=by
 apply y8.ok;unfold y8.main;rw[iD (by omega),iD (by omega)];have hl:IntKind.i64.wrap (Int.tdiv (IntKind.i64.wrap ((IntKind.i64.wrap ((n:Int)+8))-1)) 8)=(((n+7)/8:Nat):Int):=by rw[bY (x:=(n:Int)+8) (by omega) (by omega),bY (x:=(n:Int)+8-1) (by omega) (by omega),show(n:Int)+8-1=((n+7:Nat):Int)by omega];exact Wk (by omega)
 rw[hl];refine aW (by omega) (aW (by omega) (aW (by omega) ?_));rw[cy,ey];rintro δ γ rfl rfl θ τ rfl rfl;generalize hm:(n+7)/8=m;have em:madeCells #[Value.pointer none] m=(List.replicate m (Value.pointer none)).toArray:=Ew 1 m (.pointer none) (by decide);rw[em];have ρ:=μ.alloc (w:=w) (List.replicate m (Value.pointer none)) u0 1 m (by simp);have ζ:=η.alloc w (.cells (List.replicate m (Value.pointer none)).toArray u0);generalize w.alloc (.cells (List.replicate m (Value.pointer none)).toArray u0)=γ at ρ ζ⊢;have ai:=μ.new (w:=γ) [.int .i64 (n:Int),.slice (some ⟨w.heap.size,0,none⟩) m m] tC;have σ:=η.alloc γ (.cells #[.int .i64 (n:Int),.slice (some ⟨w.heap.size,0,none⟩) m m] tC);generalize γ.alloc (.cells #[.int .i64 (n:Int),.slice (some ⟨w.heap.size,0,none⟩) m m] tC)=τ at ai σ⊢;refine χ.mk ⟨_,rfl,ζ.trans σ,γ.heap.size,some ⟨w.heap.size,0,none⟩,m,List.replicate m none,rfl,h,by simp,by simp[hm],λx I=>?_,?_,?_,λk q aC=>?_⟩
 ·rw[uN I];trivial
 ·rw[se];exact ai.lower (en _)
 ·rw[se,KZ];exact(ρ.ex σ).lower (en _)
 ·have J9:=List.getElem?_eq_some_iff.1 aC;obtain⟨hk,rfl⟩:=J9;rw[se]at hk;refine .inl ⟨by simp,?_⟩;rw[List.drop_replicate,Pf];congr 1;omega
theorem aip{n:Int}(h:¬(1<=n/\n<=32))(w:World):y8.C n w (χ λv w'=>v=.tuple #[.pointer none,.int .i64 1]/\w'=w):=by apply y8.ok;unfold y8.main;refine bz (λ_=>χ.mk ⟨rfl,rfl⟩) λaD=>?_;have aD:=dd aD;rw[ud (by omega)];exact χ.mk ⟨rfl,rfl⟩
theorem W1(p:J)(n c:Nat)(xs:aU)(w:World)(π:a7 w p xs)(aj:xs.length=n)(ax:n<=1000000000000)(h1:∀y∈xs,y.oneCell'=true):
  Gd.C p n c w (χ λv w'=>∃bT aT,v=.slice bT n aT/\η w w'/\μ w' w.heap.size u0 1 bT n aT xs):=by
 apply Gd.ok;unfold Gd.main;cases p with
 |none=>
  have:xs=[]:=π
  subst this
  have:n=0:=by simpa using aj.symm
  subst this
  try dsimp only[Jo,Bp]
  exact χ.mk ⟨none,0,rfl,η.refl w,μ.nil _ _ _ _⟩
 |some a=>
  try dsimp only[mI,iY]
  rintro δ γ rfl rfl;have aB:=μ.alloc (w:=w) [] u0 1 0 rfl;have I:=η.alloc w (.cells #[] u0);refine lp aB (by have:=I.size;exact this) xs (a7.ex I π) (by omega) h1 rfl (by omega) (by omega) λbT aT w' jF hk=>?_;rw[mS]at jF⊢;rw[te]at jF;exact χ.mk ⟨bT,aT,rfl,I.then hk (λi⟨x,e,o⟩=>by cases e;exact HU o),jF⟩
theorem μ.base{w:World}{B:Nat}{e:TypeId}{sz:Nat}{p:J}{n c:Nat}{xs:aU}(h:μ w B e sz p n c xs)(ax:1<=n):∃b,p=some ⟨b,0,none⟩:=by
 obtain⟨_,h1,⟨_,ι⟩|⟨b,_,_,ι,_⟩⟩:=h
 ·omega
 ·exact⟨b,ι⟩
theorem adr(l:List J):∀y∈l.map Value.pointer,y.oneCell'=true:=by intro y ah;obtain⟨x,_,rfl⟩:=gO.1 ah;rfl
theorem amv(p:J)(n c:Nat)(l:List ea)(w:World)(π:a7 w p (l.map dO))(ax:l.length=n)(aj:n<=1000000)(aB:∀q∈l,kc q):
  uU.C p n c (.func (.func 160) #[] #[]) w (χ λv w'=>v=.bool (l.any Option.isSome)/\w'=w):=by
 apply uU.ok;unfold uU.main;have h:tu.C p n c w (χ λv w'=>(∃i:Int,v=.int .i64 i/\decide (i>=0)=l.any Option.isSome)/\w'=w):=by
  apply tu.ok;unfold tu.main tu.bd;refine⟨λcb b8 ck t7 t8 w'=>p=cb/\n=b8/\c=ck/\(n:Int)=t7/\0<=t8/\t8<=n/\w=w'/\(l.take t8.toNat).any Option.isSome=false,λ_ _ _ _ t8 _=>(n-t8).toNat,⟨rfl,rfl,rfl,rfl,by omega,by omega,rfl,rfl⟩,?_⟩;rintro _ _ _ _ t8 _ ⟨rfl,rfl,rfl,rfl,aD,h1,rfl,dR⟩;unfold tu.δ;obtain⟨j,rfl⟩:=eH aD;rw[cy]at dR;refine bz (λh=>?_) λh=>?_
  ·have bM:=b7 h;have φ:j<l.length:=by omega
   obtain⟨a,rfl,r⟩:=EU π φ;refine bL (bB aD) (bL (bB bM) ?_)
   try dsimp only[bk]
   rw[cy,ey];refine⟨_,_,r,?_⟩;have hk:=aB _ (hF φ);refine κ.use (S:=λv w'=>v=.bool l[j].isSome/\w'=w) ?_ ?_
   ·apply Iy.ok;unfold Iy.main;rw[empty_eq hk];exact χ.mk ⟨rfl,rfl⟩
   rintro _ _ ⟨rfl,rfl⟩
   try dsimp only[dE]
   refine bz (λω=>χ.mk ⟨⟨_,rfl,?_⟩,rfl⟩) λω=>?_
   ·rw[any_true _ l φ ω,bB aD]
   ·rw[bY (by omega) (by omega)];exact⟨⟨rfl,rfl,rfl,rfl,by omega,by omega,rfl,by show(l.take (j+1)).any _=_;rw[X6 _ l φ dR];exact ω⟩,by((try dsimp only);omega)⟩
  ·have bM:=dd h;rw[hc (by omega)]at dR;exact χ.mk ⟨⟨_,rfl,by rw[dR];rfl⟩,rfl⟩
 refine κ.use h ?_;rintro _ _ ⟨⟨i,rfl,o⟩,rfl⟩
 try dsimp only[bH]
 exact χ.mk ⟨by rw[o],rfl⟩
theorem ajY{L:List ea}{j k:Nat}(z:ea):((L.set j z).drop (8*k)).take 8=if k=j/8 then((L.drop (8*k)).take 8).set (j%8) z else(L.drop (8*k)).take 8:=by
 rw[List.drop_set];by_cases h1:j<8*k
 ·rw[aS h1,aM (by omega)]
 ·rw[aM h1,List.take_set];by_cases ι:k=j/8
  ·rw[aS ι,show j-8*k=j%8 by omega]
  ·rw[aM ι,List.set_eq_of_length_le (by rw[gQ];omega)]
theorem ap6{l:List ea}(dr:l.length=8)(h:l.any Option.isSome=false):l=List.replicate 8 none:=by
 apply List.ext_getElem
 ·simp[dr]
 ·intro i h1 ι;rw[List.getElem_replicate]
  have:=HW.1 h l[i] (hF h1)
  cases aC:l[i]with
  |none=>rfl
  |some x=>rw[aC]at this;simp at this
theorem ad7{w0 w:World}{b n:Nat}{L:List ea}{p:J}{c:Nat}{qs:List J}(h:zt w0 b n L p c qs)(I:η w0 w){j:Nat}(φ:j<n){z:ea}(aL:kc z){t7:Nat}
  (ε:μ w w0.heap.size xI 8 (some ⟨t7,0,none⟩) 1 1 (((L.drop (8*(j/8))).take 8).map dO)):
  l1.bP (some ⟨b,0,none⟩) (j:Int) (ev z) (eE z) t7 ((j/8:Nat):Int) w (χ λv w'=>∃hE,v=.pointer hE/\η w0 w'/\TabIs w' hE n (L.set j z)):=by
 have ax:=h.size;have hm:=h.many;have aj:=h.len;have hk:j/8<qs.length:=by omega
 have dr:((L.drop (8*(j/8))).take 8).length=8:=by rw[gQ,ky];omega
 unfold l1.bP;rw[agA];refine aW (by omega) (aW (by omega) ?_);rw[cy,ey,dv];refine ε.da (j:=j%8) (v:=dO z) (by omega) rfl λγ a1 ρ=>?_;rw[<-qX]at ρ;have nj:w0.heap.size<=t7:=(ε.ge rfl).1;have amn:η w0 γ:=I.then a1 λi o=>o▸nj;have ca:∀i,i=t7->w0.heap.size<=i:=λi o=>o▸nj;have h1:∀W,η w0 W->zt W b n L p c qs:=λW x=>h.ex x
 try dsimp only[bk]
 have e4:=amn.trans (η.drew γ);have e2:=h1 γ.drew e4;simp only[dv];refine⟨n,e2.cell.at (j:=0) rfl,p,_,c,e2.cell.at (j:=1) rfl,?_⟩;refine κ.use (W1 p _ c (qs.map Value.pointer) γ.drew e2.row.cells (by simp) (by omega) (adr _)) ?_;rintro _ τ ⟨aX,c2,rfl,σ,ai⟩
 try dsimp only[dY]
 have gJ:=e4.trans σ;refine⟨(h1 τ gJ).cell.at (j:=0) rfl,?_⟩;rintro aF aa rfl rfl;have bo:=μ.new (w:=τ) [.int .i64 (n:Int),.slice aX qs.length c2] tC;have ad:=η.alloc τ (.cells #[.int .i64 (n:Int),.slice aX qs.length c2] tC);generalize jd:τ.heap.size=aF at bo⊢;generalize τ.alloc (.cells #[.int .i64 (n:Int),.slice aX qs.length c2] tC)=aa at bo ad⊢;have iQ:=gJ.trans ad;refine⟨aX,_,c2,bo.at (j:=1) rfl,aW (by omega) (aW (by omega) ?_)⟩;have qS:=ai.ex ad;obtain⟨θ,rfl⟩:=μ.base qS (by omega)
 try dsimp only[bk]
 rw[cy,ey,dv];refine qS.da (j:=j/8) (v:=.pointer (some ⟨t7,0,none⟩)) (by omega) rfl λaz cz cx=>?_;rw[<-qX]at cx;have eu:=qS.typed rfl;have awT:γ.drew.heap.size<=θ:=(ai.ge rfl).1;have Gu:Kp τ az λi=>i=θ:=(ad.aH _).fZ cz;have l8:η w0 az:=gJ.then Gu λi o=>by have:=e4.size;omega
 have s6:μ az aF tC 2 (some ⟨aF,0,none⟩) 1 1 [.int .i64 (n:Int),.slice (some ⟨θ,0,none⟩) qs.length c2]:=bo.cB cz u0 (λi o=>o▸eu.1) (by decide);have rZ:μ az w0.heap.size xI 8 (some ⟨t7,0,none⟩) 1 1 ((((L.drop (8*(j/8))).take 8).set (j%8) z).map dO):=(((ρ.ex (η.drew γ)).ex σ).ex ad).cB cz u0 (λi o=>o▸eu.1) (by decide);have abm:(((L.drop (8*(j/8))).take 8).set (j%8) z).length=8:=by rw[im,dr]
 have an2:∀x∈L.set j z,kc x:=λx I=>by
  rcases pk I with I|rfl
  ·exact h.ok x I
  ·exact aL
 have an0:∀x∈((L.drop (8*(j/8))).take 8).set (j%8) z,kc x:=λx I=>by
  rcases pk I with I|rfl
  ·exact h.ok x (HY (vW I))
  ·exact aL
 rw[Io];refine κ.use (amv _ 8 8 _ az rZ.cells abm (by omega) an0) ?_;rintro _ aE ⟨rfl,h3⟩;obtain rfl:=h3.symm
 try dsimp only[dE]
 have rL:∀W,η w0 W->∀{gL:Nat}{qs':List J},qs'.length=qs.length->μ W gL tC 2 (some ⟨gL,0,none⟩) 1 1 [.int .i64 (n:Int),.slice (some ⟨θ,0,none⟩) qs.length c2]->μ W 0 u0 1 (some ⟨θ,0,none⟩) qs.length c2 (qs'.map Value.pointer)->
   (∀(k:Nat)q,qs'[k]?=some q->(k=j/8/\I1 W q (((L.drop (8*(j/8))).take 8).set (j%8) z))\/(k≠j/8/\qs[k]?=some q))->TabIs W (some ⟨gL,0,none⟩) n (L.set j z):=by
  intro W jQ gL qs' pa ha aqH ly;refine⟨gL,_,c2,qs',rfl,ax,by rw[im,pa];exact aj,by rw[pa];exact hm,an2,by rw[pa];exact ha.lower (en _),by rw[pa];exact aqH,λk q aC=>?_⟩;rw[ajY];rcases ly k q aC with⟨rfl,hp⟩|⟨ca,hp⟩
  ·rw[aS rfl];exact hp
  ·rw[aM ca];exact((h.ex jQ).bl k q hp)
 refine bz (λnQ=>?_) λaxF=>?_
 ·have nQ:(((L.drop (8*(j/8))).take 8).set (j%8) z).any Option.isSome=false:=by simpa using nQ
  refine⟨some ⟨θ,0,none⟩,_,c2,s6.at (j:=1) rfl,aW (by omega) (aW (by omega) ?_)⟩
  try dsimp only[bk]
  rw[dv];refine cx.da (j:=j/8) (v:=.pointer none) (by omega) rfl λba ec bS=>?_;rw[<-qX,List.set_set]at bS;have Xo:η w0 ba:=l8.then ec λi o=>by rw[o];have:=e4.size;omega
  refine χ.mk ⟨_,rfl,Xo,rL ba Xo (qs':=qs.set (j/8) none) (by simp) (s6.cB ec u0 (λi o=>o▸(cx.typed rfl).1) (by decide)) (bS.lower (en _)) λk q aC=>?_⟩;rw[List.getElem?_set]at aC;split at aC
  ·rename_i e;cases aC;exact .inl ⟨e.symm,.inl ⟨rfl,ap6 abm nQ⟩⟩
  ·rename_i e;exact .inr ⟨λbE=>e bE.symm,aC⟩
 ·refine χ.mk ⟨_,rfl,l8,rL az l8 (qs':=qs.set (j/8) (some ⟨t7,0,none⟩)) (by simp) s6 (cx.lower (en _)) λk q aC=>?_⟩;rw[List.getElem?_set]at aC;split at aC
  ·rename_i e;cases aC;exact .inl ⟨e.symm,.inr ⟨t7,rfl,rZ.lower (en _)⟩⟩
  ·rename_i e;exact .inr ⟨λbE=>e bE.symm,aC⟩
def IP:aU:=List.replicate 8 (.complex .f64 0 0)
def UC(j:Nat):aU:=List.replicate j (dO none)++List.replicate (8-j) (.complex .f64 0 0)
theorem apO{j:Nat}(h:j<8):(UC j).set j (dO none)=UC (j+1):=by
 match j,h with
 |0,_=>rfl
 |1,_=>rfl
 |2,_=>rfl
 |3,_=>rfl
 |4,_=>rfl
 |5,_=>rfl
 |6,_=>rfl
 |7,_=>rfl
 |n+8,h=>exact absurd h (by omega)
theorem awe:∀y∈IP,y.oneCell'=true:=λy ah=>by rw[uN ah];rfl
theorem ad8{w:World}{hE:J}{n:Nat}{L:List ea}(h:TabIs w hE n L){j:Nat}(φ:j<n){z:ea}(aL:kc z):
  l1.C hE (j:Int) (ev z) (eE z) w (χ λv w'=>∃mQ,v=.pointer mQ/\η w w'/\TabIs w' mQ n (L.set j z)):=by
 apply l1.ok;unfold l1.main;refine κ.use (Rg h φ) ?_;rintro _ γ ⟨rfl,aO⟩;obtain rfl:=aO.symm;have lJ:=h.len;have aC:=ZW lJ.2.2.2 j;have aaP:j<L.length:=by omega
 generalize rO:L.getD j none=q at aC⊢;obtain⟨b,p,c,qs,rfl,h⟩:=h;have ax:=h.size;have hm:=h.many;have aj:=h.len;unfold dO
 try dsimp only[bk,rE]
 rw[Vl aC aL];refine bz (λhe=>?_) λhe=>?_
 ·have he:=b7 he;subst he;have qA:=η.drew w;have h1:=h.ex qA;simp only[dv];refine⟨n,h1.cell.at (j:=0) rfl,p,_,c,h1.cell.at (j:=1) rfl,?_⟩;refine κ.use (W1 p _ c (qs.map Value.pointer) w.drew h1.row.cells (by simp) (by omega) (adr _)) ?_;rintro _ τ ⟨aX,c2,rfl,σ,ai⟩
  try dsimp only[dY]
  refine⟨(h1.ex σ).cell.at (j:=0) rfl,?_⟩;rintro aF aa rfl rfl;have bo:=μ.new (w:=τ) [.int .i64 (n:Int),.slice aX qs.length c2] tC;have ad:=η.alloc τ (.cells #[.int .i64 (n:Int),.slice aX qs.length c2] tC);generalize jd:τ.heap.size=aF at bo⊢;generalize τ.alloc (.cells #[.int .i64 (n:Int),.slice aX qs.length c2] tC)=aa at bo ad⊢;have gJ:=qA.trans (σ.trans ad);have ka:L.set j q=L:=by rw[<-rO,List.getD_eq_getElem?_getD,List.getElem?_eq_getElem aaP];exact List.set_getElem_self aaP
  rw[ka];exact χ.mk ⟨_,rfl,gJ,aF,aX,c2,qs,rfl,ax,aj,hm,h.ok,bo.lower (en _),(ai.ex ad).lower (en _),(h.ex gJ).bl⟩
 ·rintro θ ba rfl rfl;have ρ:=μ.new (w:=w) IP xI;have ζ:=η.alloc w (.cells IP.toArray xI);have ψ:w.heap.size<=w.heap.size:=ew _;generalize eu:w.heap.size=θ at ρ ψ⊢;have zJ:(w.alloc (.cells #[(Value.complex .f64 0 0),(Value.complex .f64 0 0),(Value.complex .f64 0 0),(Value.complex .f64 0 0),(Value.complex .f64 0 0),(Value.complex .f64 0 0),(Value.complex .f64 0 0),(Value.complex .f64 0 0)] xI))=w.alloc (.cells IP.toArray xI):=rfl;rw[zJ];generalize w.alloc (.cells IP.toArray xI)=ba at ρ ζ⊢;refine ρ.put (cs:=IP) rfl awe λbm hA er=>?_;have amo:η w bm:=ζ.then hA λi o=>by omega
  unfold l1.bd;refine⟨λt0 t1 q4 q3 t7 t29 w'=>some ⟨b,0,none⟩=t0/\(j:Int)=t1/\ev z=q4/\eE z=q3/\θ=t7/\0<=t29/\t29<=8/\η w w'/\μ w' w.heap.size xI 8 (some ⟨θ,0,none⟩) 1 1 (UC t29.toNat),λ_ _ _ _ _ t29 _=>(8-t29).toNat,⟨rfl,rfl,rfl,rfl,rfl,by omega,by omega,amo,er.lower (by omega)⟩,?_⟩;rintro _ _ _ _ _ t29 w' ⟨rfl,rfl,rfl,rfl,rfl,aD,h1,I,ε⟩;unfold l1.δ;obtain⟨i,rfl⟩:=eH aD;rw[cy]at ε;refine bz (λo=>?_) λo=>?_
  ·have o:=b7 o;refine aW (by omega) (aW (by omega) ?_);rw[cy,ey,dv];refine ε.da (j:=i) (v:=dO none) (by omega) rfl λb5 fL e6=>?_;rw[apO (by omega)]at e6;rw[bY (x:=(i:Int)+1) (by omega) (by omega)];exact⟨⟨rfl,rfl,rfl,rfl,rfl,by omega,by omega,I.then fL λi o=>by omega,e6⟩,by((try dsimp only);omega)⟩
  ·have o:=dd o;obtain rfl:i=8:=by omega
   unfold l1.a1
   try dsimp only[bk]
   simp only[dv];have fU:=h.ex I;rw[Wk (by omega)];refine⟨p,_,c,fU.cell.at (j:=1) rfl,aW (by omega) (aW (by omega) ?_)⟩;have hk:j/8<qs.length:=by omega
   obtain⟨a,aQ,r⟩:=fU.row.cells.many (j:=j/8) (v:=.pointer qs[j/8]) (by rw[List.getElem?_map,List.getElem?_eq_getElem hk];rfl);refine gG aQ ⟨_,by rw[cy,ey];exact r,?_⟩;rcases fU.bl (j/8) qs[j/8] (List.getElem?_eq_getElem hk)with⟨Ka,υ⟩|⟨c8,Ka,cu⟩
   ·rw[Ka,cond_neg (by rfl)];exact ad7 h I φ aL (by rw[υ];exact ε)
   ·rw[Ka,cond_pos (by rfl)];have dr:((L.drop (8*(j/8))).take 8).length=8:=by rw[gQ,ky];omega
    refine gG rfl ⟨(((L.drop (8*(j/8))).take 8).map dO).toArray,by simp only[fh,jV];exact dr,cu.cells,aW (by simp only[fh,jV];exact dr) ?_⟩;refine ε.put (cs:=((L.drop (8*(j/8))).take 8).map dO) (by rw[jV,dr]) (adm _) λcf iL jh=>?_;exact ad7 h (I.then iL λi o=>by omega) φ aL jh
theorem aeh{x:Nat×Nat}(h:gF x):kc (some x):=h
theorem ML{x:Nat×Nat}(h:gF x):tZ (ev (some x)) 0=some (ev (some x))/\tZ (eE (some x)) 0=some (eE (some x)):=
 ⟨X2 ⟨x.1,h.1⟩,X2 ⟨x.2,by have:=h.2;omega⟩⟩
 where
 X2:∀a:_root_.Fin 24,tZ (j1 a.val) 0=some (j1 a.val):=by decide+kernel
theorem I2{w:World}{hE:J}{n:Nat}{L:List ea}(h:TabIs w hE n L){j:Nat}(φ:j<n){x:Nat×Nat}(I:gF x):
  Ga.C hE (j:Int) (ev (some x)) (eE (some x)) w (χ λv w'=>∃mQ,v=.tuple #[.pointer mQ,.int .i64 0]/\η w w'/\TabIs w' mQ n (L.set j (some x))):=by
 apply Ga.ok;unfold Ga.main;refine κ.use (Wl h j) ?_;rintro _ _ ⟨rfl,rfl⟩;rw[aS (by omega)]
 try dsimp only[bH]
 rw[cond_neg (by rfl)];refine κ.use (zu (some x) (aeh I) _) ?_;rintro _ _ ⟨rfl,rfl⟩
 try dsimp only[dE]
 rw[cond_neg (by rfl),(ML I).1,(ML I).2]
 try dsimp only[bk]
 refine κ.use (ad8 h φ (z:=some x) (aeh I)) ?_;rintro _ γ ⟨mQ,rfl,ζ,h1⟩
 try dsimp only[nc]
 exact χ.mk ⟨mQ,rfl,ζ,h1⟩
theorem ahY{w:World}{hE:J}{n:Nat}{L:List ea}(h:TabIs w hE n L){j:Nat}(φ:j<n):
  F8.C hE (j:Int) w (χ λv w'=>∃mQ,v=.tuple #[.pointer mQ,.int .i64 0]/\η w w'/\TabIs w' mQ n (L.set j none)):=by
 apply F8.ok;unfold F8.main;refine κ.use (Wl h j) ?_;rintro _ _ ⟨rfl,rfl⟩;rw[aS (by omega)]
 try dsimp only[bH]
 rw[cond_neg (by rfl)];refine κ.use (ad8 h φ (z:=none) trivial) ?_;rintro _ γ ⟨mQ,rfl,ζ,h1⟩
 try dsimp only[nc]
 exact χ.mk ⟨mQ,rfl,ζ,h1⟩
theorem atp{L:List ea}{j:Nat}(h:j<L.length):L.take (j+1)=L.take j++[L.getD j none]:=by rw[k6 h,List.getD_eq_getElem?_getD,List.getElem?_eq_getElem h];rfl
theorem ahy{w:World}{hE:J}{n:Nat}{L:List ea}(h:TabIs w hE n L):ob.C hE w (χ λv w'=>∃q d,v=.slice q n d/\η w w'/\μ w' w.heap.size eo 1 q n d ((L.take n).map dO)):=by
 have lJ:=h.len;apply ob.ok;unfold ob.main;refine κ.use (I5 h) ?_;rintro _ γ ⟨rfl,aO⟩;obtain rfl:=aO.symm
 try dsimp only[bH]
 unfold ob.bd;refine⟨λt0 cR cM de t6 t7 w'=>hE=t0/\(n:Int)=t6/\0<=t7/\t7<=n/\t7=cM/\η w w'/\μ w' w.heap.size eo 1 cR cM de ((L.take t7.toNat).map dO),λ_ _ _ _ _ t7 _=>(n-t7).toNat,⟨rfl,rfl,by omega,by omega,rfl,η.refl _,μ.nil _ _ _ _⟩,?_⟩;rintro _ cR cM de _ t7 w' ⟨rfl,rfl,aD,h1,aG,I,ε⟩;unfold ob.δ;obtain⟨i,rfl⟩:=eH aD;rw[cy]at ε;obtain rfl:i=cM:=by omega
 refine bz (λo=>?_) λo=>?_
 ·have o:=b7 o;refine κ.use (Rg (h.ex I) (j:=i) (by omega)) ?_;rintro _ aE ⟨rfl,h3⟩;obtain rfl:=h3.symm;unfold dO
  try dsimp only[rE]
  rintro δ γ rfl rfl;have ζ:=η.alloc w' (.cells #[.complex .f64 (ev (L.getD i none)) (eE (L.getD i none))] eo);have c1:a7 (w'.alloc (.cells #[.complex .f64 (ev (L.getD i none)) (eE (L.getD i none))] eo)) (some ⟨w'.heap.size,0,none⟩) [dO (L.getD i none)]:=a7.alloc _ eo;generalize w'.alloc (.cells #[.complex .f64 (ev (L.getD i none)) (eE (L.getD i none))] eo)=γ at ζ c1⊢;refine lp (ε.ex ζ) (I.trans ζ).size [dO (L.getD i none)] c1 rfl (λy ah=>by simp only[lB]at ah;subst ah;rfl) rfl (by omega) (by omega) λeg hs b5 e6 fL=>?_;rw[bY (x:=(i:Int)+1) (by omega) (by omega)];refine⟨⟨rfl,rfl,by omega,by omega,rfl,(I.trans ζ).then fL λb⟨y,ah,ψ⟩=>ψ▸(ε.ge ah).1,?_⟩,by((try dsimp only);omega)⟩;show μ b5 _ _ _ _ _ _ ((L.take (i+1)).map dO);rw[atp (by omega),q0];exact e6
 ·have o:=dd o;obtain rfl:i=n:=by omega
  exact χ.mk ⟨cR,de,rfl,I,ε⟩
theorem ahx(w:World):ob.C none w (χ λv w'=>v=.slice none 0 0/\w'=w):=by
 apply ob.ok;unfold ob.main;refine κ.use (aiK w) ?_;rintro _ γ ⟨rfl,aO⟩;obtain rfl:=aO.symm
 try dsimp only[bH]
 unfold ob.bd;refine⟨λt0 cR cM de t6 t7 w'=>cR=none/\cM=0/\de=0/\t6=0/\t7=0/\w=w',λ_ _ _ _ _ _ _=>0,⟨rfl,rfl,rfl,rfl,rfl,rfl⟩,?_⟩;rintro _ _ _ _ _ _ _ ⟨rfl,rfl,rfl,rfl,rfl,rfl⟩;unfold ob.δ;rw[iD (by omega)];exact χ.mk ⟨rfl,rfl⟩
theorem μ.putAt{w:World}{B:Nat}{e:TypeId}{sz b n c:Nat}{xs:aU}(aB:μ w B e sz (some ⟨b,0,none⟩) n c xs)(ε:Nat)(ys:aU)(aj:ε+ys.length<=n*sz)(h1:∀y∈ys,y.oneCell'=true){N:ao}
  (K:∀τ,Kp w τ (λi=>i=b)->μ τ B e sz (some ⟨b,0,none⟩) n c (xs.take ε++ys++xs.drop (ε+ys.length))->N τ):hr w ((⟨b,0,none⟩:Addr).add ε) ys/\∀τ,τ=w.setCells ((⟨b,0,none⟩:Addr).add ε).block ((⟨b,0,none⟩:Addr).add ε).off ys->N τ:=by
 obtain⟨a1,bP,cd⟩:=aB.writes ε ys aj h1;refine⟨a1,λτ hw=>?_⟩;have oC:kQ w (some ⟨b,0,none⟩) ε ys=τ:=by rw[hw,dv];show w.setCells b (0+ε) ys=_;rw[mS]
 rw[oC]at bP cd;exact K τ (cd.mono λi _⟨x,I,o⟩=>by cases I;exact o.symm) bP
def fS(R:bR)(v:Int):Option fF:=if 0<=v/\v<8 then(R[v.toNat]?).filter λe=>decide (e.1≠0)else none
def lf(R:bR):Option Nat:=R.findIdx? λe=>decide (e.1=0)
def jv(R:bR)(v b:Nat)(q:ea):bR:=match R[v]?with
 |some e=>R.set v (e.1,e.2.1,e.2.2.set b q)
 |none=>R
theorem zL{R:bR}{v:Int}{e:fF}(h:fS R v=some e):0<=v/\v<8/\R[v.toNat]?=some e/\e.1≠0:=by
 unfold fS at h;split at h
 ·rename_i aJ;cases υ:R[v.toNat]?with
  |none=>rw[υ]at h;simp at h
  |some x=>
   rw[υ,La]at h;split at h
   ·cases h;rename_i hk;exact⟨aJ.1,aJ.2,rfl,b7 hk⟩
   ·cases h
 ·cases h
theorem ak8{R:bR}{k:Nat}{e:fF}(hk:k<8)(he:R[k]?=some e)(h:e.1≠0):fS R (k:Int)=some e:=by unfold fS;rw[aS (by omega),cy,he,La,aS (bB h)]
theorem Pv{R:bR}(dr:R.length=8){i:Nat}(h:lf R=some i):i<8/\∃e,R[i]?=some e/\e.1=0:=by unfold lf at h;obtain⟨bM,hp,_⟩:=List.findIdx?_eq_some_iff_getElem.1 h;exact⟨by omega,R[i],List.getElem?_eq_getElem bM,by simpa using hp⟩
def vk(w:World)(tp:J)(e:fF):Prop:=(tp=none/\e.2.2=[])\/∃n L,TabIs w tp n L/\e.2.2=L.take n/\e.2.1=(n:Int)
structure rp(w:World)(B b1:Nat)(R:bR)(fI:List J):Prop where
 ε:μ w B AT 24 (some ⟨b1,0,none⟩) 1 1 (kinds R++fI.map Value.pointer)
 len:R.length=8
 jW:fI.length=8
 tb:∀(k:Nat)(e:fF)(tp:J),R[k]?=some e->fI[k]?=some tp->vk w tp e
def ki(w:World)(B b1:Nat)(R:bR):Prop:=∃fI,rp w B b1 R fI
theorem vk.aH{w w':World}{tp:J}{e:fF}(h:vk w tp e){S:bf}(k:Kp w w' S)(ω:∀i,S i->¬sB w i):vk w' tp e:=by
 rcases h with h|⟨n,L,h1,ι⟩
 ·exact .inl h
 ·exact .inr ⟨n,L,h1.aH k ω,ι⟩
theorem vk.ex{w w':World}{tp:J}{e:fF}(h:vk w tp e)(x:η w w'):vk w' tp e:=h.aH x λ_ h=>h.elim
theorem rp.aH{w w':World}{B b1:Nat}{R:bR}{fI:List J}(h:rp w B b1 R fI){S:bf}(k:Kp w w' S)(hp:¬S b1)(ω:∀i,S i->¬sB w i):rp w' B b1 R fI:=
 ⟨h.ε.aH k λx I o=>by cases I;exact hp o,h.len,h.jW,λi e tp he aP=>(h.tb i e tp he aP).aH k ω⟩
theorem rp.ex{w w':World}{B b1:Nat}{R:bR}{fI:List J}(h:rp w B b1 R fI)(x:η w w'):rp w' B b1 R fI:=h.aH x (λh=>h) λ_ h=>h.elim
theorem ki.aH{w w':World}{B b1:Nat}{R:bR}(h:ki w B b1 R){S:bf}(k:Kp w w' S)(hp:¬S b1)(ω:∀i,S i->¬sB w i):ki w' B b1 R:=by obtain⟨t,h⟩:=h;exact⟨t,h.aH k hp ω⟩
theorem ki.ex{w w':World}{B b1:Nat}{R:bR}(h:ki w B b1 R)(x:η w w'):ki w' B b1 R:=h.aH x (λh=>h) λ_ h=>h.elim
theorem ki.typed{w:World}{B b1:Nat}{R:bR}(h:ki w B b1 R):Typed w AT b1/\B<=b1/\b1<w.heap.size:=by obtain⟨t,h⟩:=h;exact h.ε.typed rfl
theorem VL{w:World}{i:Nat}(h:Typed w AT i):¬sB w i:=by
 rintro(t|t|t)
 ·exact h.ne t (by decide) rfl
 ·exact h.ne t (by decide) rfl
 ·exact h.ne t (by decide) rfl
def nF(w:World)(B b1:Nat)(R:bR)(w':World):Prop:=ki w' B b1 R/\Kp w w' λi=>i=b1
theorem oI{R:bR}(h:R.length=8):(kinds R).length=16:=by rw[Ag,h]
theorem rp.nf{w:World}{B b1:Nat}{R:bR}{fI:List J}(h:rp w B b1 R fI){k:Nat}{e:fF}(he:R[k]?=some e):(kinds R++fI.map Value.pointer)[k*2]?=some (.int .i64 e.1)/\(kinds R++fI.map Value.pointer)[k*2+1]?=some (.int .i64 e.2.1)/\((kinds R++fI.map Value.pointer).drop (k*2)).take 2=two e.1 e.2.1:=by
 have hk:k<8:=by have:=(List.getElem?_eq_some_iff.1 he).1;rw[h.len]at this;exact this
 obtain⟨t,aP⟩:=Um R k e he;have SB:=oI h.len;have af:(kinds R++fI.map Value.pointer).drop (k*2)=two e.1 e.2.1++(t++fI.map Value.pointer):=by rw[Cd (by omega),aP,lT]
 refine⟨?_,?_,by rw[af];rfl⟩
 ·have:=gP (λl=>l[0]?) af
  rw[List.getElem?_drop]at this;exact this
 ·have:=gP (λl=>l[1]?) af
  rw[List.getElem?_drop]at this;exact this
theorem rp.Ix{w:World}{B b1:Nat}{R:bR}{fI:List J}(h:rp w B b1 R fI){k:Nat}{tp:J}(aP:fI[k]?=some tp):(kinds R++fI.map Value.pointer)[16+k]?=some (.pointer tp):=by rw[List.getElem?_append_right (by rw[oI h.len];omega),oI h.len,Ia,List.getElem?_map,aP];rfl
theorem rp.Iz{w:World}{B b1:Nat}{R:bR}{fI:List J}(h:rp w B b1 R fI){k:Nat}(hk:k<8):∃e tp,R[k]?=some e/\fI[k]?=some tp:=
 ⟨R[k]'(by rw[h.len];exact hk),fI[k]'(by rw[h.jW];exact hk),List.getElem?_eq_getElem _,List.getElem?_eq_getElem _⟩
theorem Ln{R:bR}(dr:R.length=8)(qs:aU)(k:Nat)(v:Value):(kinds R++qs).set (16+k) v=kinds R++qs.set k v:=by rw[Ce _ _ (by rw[oI dr];omega),oI dr,Ia]
theorem rp.j5{w:World}{B b1:Nat}{R:bR}{fI:List J}(h:rp w B b1 R fI){i:Nat}(o:i<8)(e:fF){tp:J}(aP:vk w tp e){N:ao}(K:∀w',nF w B b1 (R.set i e) w'->N w'):
  hr w ((⟨b1,0,none⟩:Addr).add (i*2)) [.int .i64 e.1,.int .i64 e.2.1]/\∀τ,τ=w.setCells ((⟨b1,0,none⟩:Addr).add (i*2)).block ((⟨b1,0,none⟩:Addr).add (i*2)).off [.int .i64 e.1,.int .i64 e.2.1]->
   ((τ.cell? (⟨b1,16+i,none⟩:Addr)).isSome=true/\τ.frozen? (⟨b1,16+i,none⟩:Addr)=false/\∀aa,aa=τ.setCell (⟨b1,16+i,none⟩:Addr) (.pointer tp)->N aa):=by
 refine μ.putAt h.ε (i*2) (two e.1 e.2.1) (by show i*2+2<=1*24;omega) mW λτ bP ai=>?_;rw[V5 h.len o e.1 e.2.1 e.2.2]at ai;refine ai.da (j:=16+i) (by omega) rfl λaa cd bo=>?_;rw[Ln (by rw[im];exact h.len),<-qX]at bo;have QM:=bP.fZ cd;have yC:∀j,j=b1->¬sB w j:=λj φ=>VL (φ▸(h.ε.typed rfl).1);refine K aa ⟨⟨fI.set i tp,bo,by rw[im];exact h.len,by rw[im];exact h.jW,λk cO Wm dG ku=>?_⟩,QM⟩;rw[List.getElem?_set]at dG ku;by_cases pZ:i=k
 ·rw[aS pZ,aS (by rw[h.len];omega)]at dG;rw[aS pZ,aS (by rw[h.jW];omega)]at ku;cases dG;cases ku;exact aP.aH QM yC
 ·rw[aM pZ]at dG ku;exact(h.tb k cO Wm dG ku).aH QM yC
theorem aio(w:World):Fl.C w (χ λv w'=>v=.pointer (some ⟨w.heap.size,0,none⟩)/\η w w'/\ki w' w.heap.size w.heap.size (cp [])):=by
 apply Fl.ok;unfold Fl.main;rintro δ γ rfl rfl;have ρ:=μ.new (w:=w) (kinds (cp [])++(List.replicate 8 (none:J)).map Value.pointer) AT;refine χ.mk ⟨rfl,η.alloc w _,List.replicate 8 none,ρ,rfl,rfl,λk e tp he aP=>.inl ⟨?_,?_⟩⟩
 ·exact uN (eZ aP)
 ·have:e=Gn:=uN (n:=8) (eZ he)
  rw[this]
def ig(R:bR)(v:Int):Int×Int×Int:=match fS R v with
 |some e=>(e.1,e.2.1,0)
 |none=>(0,0,4)
theorem A4{w:World}{B b1:Nat}{R:bR}(h:ki w B b1 R)(v:Int):Fo.C (some ⟨b1,0,none⟩) v w (χ λu w'=>u=.tuple #[.agg (two (ig R v).1 (ig R v).2.1).toArray,.int .i64 (ig R v).2.2]/\η w w'):=by
 obtain⟨fI,h⟩:=h;apply Fo.ok;unfold Fo.main;rintro δ γ rfl rfl;have ρ:=μ.new (w:=w) (two 0 0) jl;have ζ:=η.alloc w (.cells (two 0 0).toArray jl);have aO:w.alloc (.cells #[.int .i64 0,.int .i64 0] jl)=w.alloc (.cells (two 0 0).toArray jl):=rfl;rw[aO];generalize w.alloc (.cells (two 0 0).toArray jl)=γ at ρ ζ⊢;have h1:=h.ex ζ;generalize ψ:w.heap.size=b at ρ;have ψ:w.heap.size<=b:=by omega
 have fin:∀(a c e:Int),(two (ig R v).1 (ig R v).2.1,(ig R v).2.2)=(two a c,e)->(hr γ (⟨b,0,none⟩:Addr) (two a c)/\∀aa,aa=γ.setCells (⟨b,0,none⟩:Addr).block (⟨b,0,none⟩:Addr).off (two a c)->
  (∃(bF:ag),bF.size=2/\aw aa (⟨b,0,none⟩:Addr) bF.toList/\(χ λu w'=>u=.tuple #[.agg (two (ig R v).1 (ig R v).2.1).toArray,.int .i64 (ig R v).2.2]/\η w w') (.returned (Value.tuple #[(Value.agg bF),.int .i64 e])) aa)):=by
  intro a c e he;refine ρ.put (cs:=two a c) rfl mW λτ bP ai=>⟨(two a c).toArray,rfl,ai.cells,χ.mk ⟨?_,ζ.then bP λi o=>by omega⟩⟩;have yr:=gP Prod.fst he;have lx:=gP Prod.snd he;dsimp only at yr lx;rw[yr,lx]
 have bad:fS R v=none->(two (ig R v).1 (ig R v).2.1,(ig R v).2.2)=(two 0 0,4):=λe=>by unfold ig;rw[e]
 rw[cond_neg (by rfl)];refine bz (λaD=>fin 0 0 4 (bad (by unfold fS;rw[aM (by have:=b7 aD;omega)]))) λaD=>?_;refine bz (λdr=>fin 0 0 4 (bad (by unfold fS;rw[aM (by have:=b7 dr;omega)]))) λdr=>?_;have aD:=dd aD;have dr:=dd dr;obtain⟨k,rfl⟩:=eH (show 0<=v by omega);obtain⟨e,tp,he,aP⟩:=h1.Iz (k:=k) (by omega);obtain⟨c1,c2,bI⟩:=h1.nf he
 try dsimp only[bk]
 refine aW (by omega) (aW (by omega) ?_);simp only[dv,cy];refine⟨e.1,h1.ε.at c1,bz (λaL=>fin 0 0 4 (bad ?_)) λaL=>?_⟩
 ·unfold fS;rw[aS (by omega),cy,he]
  have:e.1=0:=by simpa using aL
  simp[this]
 ·have aL:e.1≠0:=by simpa using aL
  refine aW (by omega) (aW (by omega) ?_);refine⟨(two e.1 e.2.1).toArray,rfl,?_,aW rfl (fin e.1 e.2.1 0 ?_)⟩
  ·have:=(aw.drop (w:=γ) (a:=(⟨b1,0,none⟩:Addr)) h1.ε.cells (k*2))
   rw[dv]at this
   have:=a7.take (w:=γ) (a:=some _) this 2
   rw[bI]at this;exact this
  ·unfold ig;rw[ak8 (by omega) he aL]
theorem aej{w:World}{B b1:Nat}{R:bR}(h:ki w B b1 R):Fs.C (some ⟨b1,0,none⟩) w (χ λu w'=>u=.tuple #[.int .i64 ((lf R).getD 0:Nat),.int .i64 (if(lf R).isSome then 0 else 7)]/\η w w'):=by
 obtain⟨fI,h⟩:=h;apply Fs.ok;unfold Fs.main
 try dsimp only[bk]
 rw[Io];have dr:=h.len;refine κ.use (S:=λu w'=>u=.int .i64 (match lf R with|some i=>(i:Int)|none=>-1)/\η w w') ?_ ?_
 ·apply tQ.ok;unfold tQ.main tQ.bd;refine⟨λcb b8 ck t7 t8 w'=>some ⟨b1,0,none⟩=cb/\8=b8/\8=t7/\0<=t8/\t8<=8/\η w w'/\∀(j:Nat)(e:fF),j<t8.toNat->R[j]?=some e->e.1≠0,λ_ _ _ _ t8 _=>(8-t8).toNat,⟨rfl,rfl,rfl,by omega,by omega,η.refl w,λj e φ=>by omega⟩,?_⟩;rintro _ _ ck _ t8 w' ⟨rfl,rfl,rfl,aD,h1,I,dR⟩;unfold tQ.δ;obtain⟨k,rfl⟩:=eH aD;rw[cy]at dR;refine bz (λhk=>?_) λhk=>?_
  ·have hk:=b7 hk;obtain⟨e,tp,he,aP⟩:=h.Iz (k:=k) (by omega);obtain⟨c1,c2,bI⟩:=h.nf he;refine aW (by omega) (aW (by omega) ?_)
   try dsimp only[bk]
   simp only[cy];refine⟨(two e.1 e.2.1).toArray,rfl,?_,?_⟩
   ·have:=(aw.drop (w:=w') (a:=(⟨b1,0,none⟩:Addr)) (h.ex I).ε.cells (k*2))
    have:=a7.take (w:=w') (a:=some _) this 2
    rw[bI]at this;exact this
   refine κ.use (S:=λu τ=>u=.bool (e.1==0)/\η w' τ) ?_ ?_
   ·apply Ih.ok;unfold Ih.main;rintro δ γ rfl rfl;have ρ:=μ.new (w:=w') (two e.1 e.2.1) jl;exact⟨e.1,ρ.at (j:=0) rfl,χ.mk ⟨rfl,η.alloc w' _⟩⟩
   rintro _ τ ⟨rfl,σ⟩
   try dsimp only[dE]
   refine bz (λaL=>χ.mk ⟨?_,I.trans σ⟩) λaL=>?_
   ·have:lf R=some k:=by
     unfold lf;refine List.findIdx?_eq_some_iff_getElem.2 ⟨by omega,?_,λj φ=>?_⟩
     ·have:=(List.getElem?_eq_some_iff.1 he).2
      rw[this];simpa using aL
     ·have:=dR j R[j] φ (List.getElem?_eq_getElem _)
      simpa using this
    rw[this]
   ·rw[bY (x:=(k:Int)+1) (by omega) (by omega)];refine⟨⟨by trivial,by trivial,by trivial,by omega,by omega,I.trans σ,λj cO φ dG=>?_⟩,by((try dsimp only);omega)⟩;rcases H6 j k with h|h
    ·exact dR j cO h dG
    ·have:j=k:=by omega
     subst this;rw[he]at dG;cases dG;simpa using aL
  ·have hk:=dd hk
   have:lf R=none:=by
    unfold lf;rw[List.findIdx?_eq_none_iff];intro e he;obtain⟨j,φ,rfl⟩:=Pe.1 he
    have:=dR j R[j] (by omega) (List.getElem?_eq_getElem _)
    simpa using this
   rw[this];exact χ.mk ⟨rfl,I⟩
 rintro _ γ ⟨rfl,ζ⟩
 try dsimp only[bH]
 cases ω:lf R with
 |none=>rw[ud (by decide)];exact χ.mk ⟨rfl,ζ⟩
 |some i=>rw[iD (by dsimp only;omega)];exact χ.mk ⟨rfl,ζ⟩
end Go.Proofs.YtcpdfhkhaekekaaGreat.G.eW
namespace Go.Proofs.YtcpdfhkhaekekaaGreat.G.cL
open Go.bO Go.RowKit
def vH(k:Int)(live:an)(but:Int)(i:Nat):Bool:=decide (0<live.getD i 0)&&decide (live.getD i 0<k)&&decide ((i:Int)≠but)
def hj(k:Int)(live:an)(but:Int)(n:Nat):List Nat:=(List.range n).filter (vH k live but)
def qT(k:Int)(live iu:an)(c:List Nat):an:=c.map λi=>(k-live.getD i 0)*(iu.getD i 0+1)
def q7(k:Int)(live:an)(c:List Nat):an:=c.map λi=>k+live.getD i 0
def r6(k:Int)(live iu:an)(but:Int):Option Nat:=
 let c:=hj k live but live.length
 if c=[]then none else some (c.getD (qH (qT k live iu c) (q7 k live c) c.length) 0)
theorem YM(k:Int)(live:an)(but:Int)(n:Nat):hj k live but (n+1)=hj k live but n++if vH k live but n then[n]else[]:=by
 unfold hj;rw[uP,B9];congr 1;by_cases h:vH k live but n=true
 ·simp[h]
 ·simp[h]
theorem YL{k:Int}{live:an}{but:Int}{n:Nat}:∀i∈hj k live but n,i<n/\vH k live but i=true:=λi o=>by unfold hj at o;rw[mv,ns]at o;exact o
theorem ajQ(k:Int)(live:an)(but:Int)(n:Nat):(hj k live but n).length<=n:=by unfold hj;exact fY (Vy _ _) (by simp)
def oe(p q:J):Prop:=∀x y,p=some x->q=some y->x.block≠y.block
structure wA(w0 w:World)(p q r:J)(n c1 c2 bI:Nat)(xs ys kS:an):Prop where
 ρ:μ w w0.heap.size cj 1 p n c1 (bw.cI xs)
 ai:μ w w0.heap.size cj 1 q n c2 (bw.cI ys)
 bo:μ w w0.heap.size cj 1 r n bI (bw.cI kS)
 a12:oe p q
 Gz:oe p r
 a23:oe q r
theorem wA.ex{w0 w w':World}{p q r:J}{n c1 c2 bI:Nat}{xs ys kS:an}(h:wA w0 w p q r n c1 c2 bI xs ys kS)(x:η w w'):wA w0 w' p q r n c1 c2 bI xs ys kS:=⟨h.ρ.ex x,h.ai.ex x,h.bo.ex x,h.a12,h.Gz,h.a23⟩
theorem Rc{w:World}{B:Nat}{p:J}{n c:Nat}{xs:an}(ε:μ w B cj 1 p n c (bw.cI xs))(dW:B<=w.heap.size)(ax:n<=100000)(x:Int){N:J->Nat->ao}
  (K:∀bT aT w',μ w' B cj 1 bT (n+1) aT (bw.cI (xs++[x]))->Kp w w' (λi=>∃a,p=some a/\a.block=i)->(bT=p\/∀a,bT=some a->w.heap.size<=a.block)->N bT aT w'):
  aN w #[.int .i64 x] cj λb γ=>gK γ p n c 1 (a7 γ (some ⟨b,0,none⟩)) cj 1 8 #[.int .i64 0] N:=by
 rintro δ γ rfl rfl;have ζ:=η.alloc w (.cells #[.int .i64 x] cj);have c1:a7 (w.alloc (.cells #[.int .i64 x] cj)) (some ⟨w.heap.size,0,none⟩) [.int .i64 x]:=a7.alloc _ cj;generalize w.alloc (.cells #[.int .i64 x] cj)=γ at ζ c1⊢;refine Bb (ε.ex ζ) (fY dW ζ.size) [.int .i64 x] c1 rfl (λy ah=>by simp only[lB]at ah;subst ah;rfl) rfl (by omega) (by omega) λeg hs b5 e6 fL hp=>K eg hs b5 ?_ ((ζ.aH _).fZ fL) ?_
 ·have:bw.cI (xs++[x])=bw.cI xs++[.int .i64 x]:=by simp[bw.cI]
  rw[this];exact e6
 ·rcases hp with hp|hp
  ·exact .inl hp
  ·exact .inr λa aQ=>fY ζ.size (hp a aQ)
theorem CR{w:World}{B n c:Nat}{p bT q:J}{xs:aU}(h:oe p q)(hp:bT=p\/∀a,bT=some a->w.heap.size<=a.block)(ε:μ w B cj 1 q n c xs):oe bT q:=by
 rcases hp with rfl|hp
 ·exact h
 ·intro x y I ah
  have:=hp x I
  have:=(ε.ge ah).2
  omega
theorem oe.symm{p q:J}(h:oe p q):oe q p:=λx y I ah e=>h y x ah I e.symm
theorem Hs{w w':World}{B n c:Nat}{p q:J}{xs:aU}(ε:μ w B cj 1 q n c xs)(k:Kp w w' λi=>∃a,p=some a/\a.block=i)(h:oe p q):μ w' B cj 1 q n c xs:=
 ε.aH k λx I⟨a,aQ,e⟩=>h a x aQ I e
theorem wA.push{w0 w:World}{p q r:J}{n c1 c2 bI:Nat}{xs ys kS:an}(h:wA w0 w p q r n c1 c2 bI xs ys kS)(I:η w0 w)(ax:n<=100000)(x y z:Int){N:J->Nat->J->Nat->J->Nat->ao}
  (K:∀bT d1 oQ d2 AH d3 w',wA w0 w' bT oQ AH (n+1) d1 d2 d3 (xs++[x]) (ys++[y]) (kS++[z])->η w0 w'->N bT d1 oQ d2 AH d3 w'):
  aN w #[.int .i64 x] cj λaF ba=>gK ba p n c1 1 (a7 ba (some ⟨aF,0,none⟩)) cj 1 8 #[.int .i64 0] λab d1 bm=>
  aN bm #[.int .i64 y] cj λae b5=>gK b5 q n c2 1 (a7 b5 (some ⟨ae,0,none⟩)) cj 1 8 #[.int .i64 0] λaX d2 cf=>
  aN cf #[.int .i64 z] cj λc8 c6=>gK c6 r n bI 1 (a7 c6 (some ⟨c8,0,none⟩)) cj 1 8 #[.int .i64 0] λbh d3 cA=>N ab d1 aX d2 bh d3 cA:=by
 have ω:=I.size;have low:∀{W:World}{p:J}{c:Nat}{l:an},μ W w0.heap.size cj 1 p n c (bw.cI l)->∀i,(∃a,p=some a/\a.block=i)->w0.heap.size<=i:=λε i⟨a,aQ,o⟩=>o▸(ε.ge aQ).1;refine Rc h.ρ ω ax x λab d1 bm ρ a1 zX=>?_;have ai:=Hs h.ai a1 h.a12;have bo:=Hs h.bo a1 h.Gz;have aV:=I.then a1 (low h.ρ);have a12:=CR h.a12 zX h.ai;have Gz:=CR h.Gz zX h.bo;refine Rc ai aV.size ax y λaX d2 cf qS bP oB=>?_;have a12:=(CR a12.symm oB ρ).symm;have a23:=CR h.a23 oB bo;have ρ:=Hs ρ bP (CR h.a12 zX h.ai).symm;have s6:=Hs bo bP h.a23;have cm:=aV.then bP (low ai);refine Rc s6 cm.size ax z λbh d3 cA aqk cd nR=>?_;have fl:=cm.then cd (low s6);exact K ab d1 aX d2 bh d3 cA ⟨Hs ρ cd Gz.symm,Hs qS cd a23.symm,aqk,a12,(CR Gz.symm nR ρ).symm,(CR a23.symm nR qS).symm⟩ fl
theorem Nl{l:an}{i:Nat}(h:i<l.length):l.getD i 0∈l:=eZ (DL h)
theorem aqN(k:Int)(live iu:an)(c:List Nat)(i:Nat):qT k live iu (c++[i])=qT k live iu c++[(k-live.getD i 0)*(iu.getD i 0+1)]:=by simp[qT]
theorem avG(k:Int)(live:an)(c:List Nat)(i:Nat):q7 k live (c++[i])=q7 k live c++[k+live.getD i 0]:=by simp[q7]
def zk(c:List Nat):an:=c.map λ(i:Nat)=>(i:Int)
theorem aiy{w:World}{s k:Int}(hm:bw.may s k=true){p q bp:J}{n c d bc:Nat}{live iu:an}{but:Int}(aj:a7 w p (bw.cI live))(aQ:a7 w q (bw.cI iu))(ψ:a7 w bp (bw.cI [but]))(zV:live.length=n)(awR:iu.length=n)(ω:(n:Int)=s)
  (JZ:∀x∈live,0<=x/\x<=k)(JK:∀x∈iu,0<=x/\x<65536):
  iX.C s k p n c q n d bp 1 bc w (χ λv w'=>v=(match r6 k live iu but with|none=>.tuple #[.int .i64 0,.int .i64 4]|some g=>.tuple #[.int .i64 (g:Int),.int .i64 0])/\η w w'):=by
 have hy:6<=s/\s<=24/\2<=k/\k<=16:=by unfold bw.may at hm;simp at hm;omega
 have TI:r6 k live iu but=let c:=hj k live but n;if c=[]then none else some (c.getD (qH (qT k live iu c) (q7 k live c) c.length) 0):=by unfold r6;rw[zV]
 apply iX.ok;unfold iX.main;rintro δ γ ej rfl;have ρ:=μ.new (w:=w) (two s k) b2;rw[<-ej]at ρ;have ζ:=η.alloc w (.cells (two s k).toArray b2);have aO:w.alloc (.cells #[.int .i64 s,.int .i64 k] b2)=w.alloc (.cells (two s k).toArray b2):=rfl;rw[aO];generalize w.alloc (.cells (two s k).toArray b2)=γ at ρ ζ⊢;refine⟨(two s k).toArray,rfl,ρ.cells,?_⟩;refine κ.use (akk hm (aj.ex ζ) zV ω JZ) ?_;rintro _ τ ⟨rfl,σ⟩
 try dsimp only[dE]
 have ρ:=ρ.ex σ;have e4:=ζ.trans σ;have aqe:=ρ;refine⟨s,ρ.at (j:=0) rfl,?_⟩;rw[cond_neg (by simp[ω])];unfold iX.bd
 refine⟨λe8 e0 fN cR cM de t4 e7 eV fi jw jI jH hM fu h8 kB kA lC t34 t35 w'=>q=e8/\n=e0/\bp=cR/\1=cM/\δ=t4/\p=kB/\n=kA/\(n:Int)=t34/\0<=t35/\t35<=n/\η w w'/\μ w' δ b2 2 (some ⟨δ,0,none⟩) 1 1 (two s k)/\fu=eV/\fu=jI/\fu=(hj k live but t35.toNat).length/\
   wA τ w' e7 jw hM fu fi jH h8 (qT k live iu (hj k live but t35.toNat)) (q7 k live (hj k live but t35.toNat)) (zk (hj k live but t35.toNat))/\η τ w',
  λ_ _ _ _ _ _ _ _ _ _ _ _ _ _ _ _ _ _ _ _ t35 _=>(n-t35).toNat,⟨rfl,rfl,rfl,rfl,rfl,rfl,rfl,rfl,by omega,by omega,e4,ρ,rfl,rfl,rfl,⟨μ.nil _ _ _ _,μ.nil _ _ _ _,μ.nil _ _ _ _,(λx y h=>by cases h),(λx y h=>by cases h),(λx y h=>by cases h)⟩,η.refl _⟩,?_⟩
 rintro _ _ fN _ _ de _ e7 eV fi jw jI jH hM fu h8 _ _ lC _ t35 w' ⟨rfl,rfl,rfl,rfl,rfl,rfl,rfl,rfl,aD,h1,I,ρ,rfl,rfl,uw,e2,jU⟩;unfold iX.δ;obtain⟨i,rfl⟩:=eH aD;rw[cy]at e2 uw;have JV:=ajQ k live but i;have kY:IntKind.i64.wrap ((i:Int)+1)=((i+1:Nat):Int):=by rw[bY (by omega) (by omega)];rfl
 refine bz (λo=>?_) λo=>?_
 ·have o:=b7 o;have kX:i<n:=by omega
  obtain⟨ar,aO,cG⟩:=(aj.ex I).many (bw.uC (DL (l:=live) (i:=i) (by omega)));obtain⟨a2,bE,fM⟩:=((aQ.ex I).ex (η.drew w')).many (bw.uC (DL (l:=iu) (i:=i) (by omega)));have ab0:=JZ _ (Nl (l:=live) (i:=i) (by omega));have X8:=JK _ (Nl (l:=iu) (i:=i) (by omega));refine aW (by omega) (aW (by omega) (gG aO ⟨_,by rw[cy,ey];exact cG,k,(ρ.ex (η.drew w')).at (j:=1) rfl,?_⟩));refine aW (by omega) (aW (by omega) (gG bE ⟨_,by rw[cy,ey];exact fM,?_⟩));generalize lJ:live.getD i 0=L at ab0 cG⊢;generalize fb:iu.getD i 0=A at X8 fM⊢;refine κ.use (aiG (by omega) ab0 X8 _) ?_;rintro _ az ⟨rfl,iZ⟩;obtain rfl:=iZ.symm
  try dsimp only[bX,cC,cD,mK,bk,bH]
  rw[cond_neg (by rfl)];have Ap:∀W,η τ W->μ W δ b2 2 (some ⟨δ,0,none⟩) 1 1 (two s k):=λW va=>aqe.ex va;have dT:=η.drew w';have I:=I.trans dT;have jU:=jU.trans dT;have ρ:=ρ.ex dT;have e2:=e2.ex dT;generalize w'.drew=w' at I jU ρ e2⊢;unfold iX.fG;refine⟨λe8 e0 AL cR cM xG t4 avq avp avo avt avs avr avw avv avu t13 t14 t15 t16 kB kA AM t34 t35 y7 y6 AQ t56 t57 W=>iu.length=iu.length/\q=e8/\n=e0/\bp=cR/\1=cM/\δ=t4/\e7=avq/\fu=avp/\fi=avo/\jw=avt/\fu=avs/\jH=avr/\hM=avw/\fu=avv/\h8=avu/\(i:Int)=t13/\L=t14/\(k-L)*(A+1)=t15/\k+L=t16/\p=kB/\n=kA/\(n:Int)=t34/\(i:Int)=t35/\bp=y7/\1=y6/\t56=1/\(t57=0\/t57=1/\(i:Int)≠but)/\w'=W,
   λ_ _ _ _ _ _ _ _ _ _ _ _ _ _ _ _ _ _ _ _ _ _ _ _ _ _ _ _ _ t57 _=>(1-t57).toNat,⟨rfl,rfl,rfl,rfl,rfl,rfl,rfl,rfl,rfl,rfl,rfl,rfl,rfl,rfl,rfl,rfl,rfl,rfl,rfl,rfl,rfl,rfl,rfl,rfl,rfl,rfl,.inl rfl,rfl⟩,?_⟩
  rintro _ _ AL _ _ xG _ _ _ _ _ _ _ _ _ _ _ _ _ _ _ _ AM _ _ _ _ AQ _ t57 W ⟨-,rfl,rfl,rfl,rfl,rfl,rfl,rfl,rfl,rfl,rfl,rfl,rfl,rfl,rfl,rfl,rfl,rfl,rfl,rfl,rfl,rfl,rfl,rfl,rfl,rfl,al2,rfl⟩;unfold iX.θ;rw[kY];have same:vH k live but i=false->hj k live but (i+1)=hj k live but i:=λe=>by rw[YM,e];simp
  rcases al2 with rfl|⟨rfl,ca⟩
  ·rw[ud (by omega)];obtain⟨a3,gw,iU⟩:=(ψ.ex I).one rfl;refine aW (by omega) (aW (by omega) (gG gw ⟨but,?_,?_⟩))
   ·rw[show(0:Int).toNat*1=0 from rfl,Addr.add_zero'];exact iU
   refine bz (λpW=>?_) λpW=>?_
   ·have pW:but=(i:Int):=by simpa using pW
    have e:=same (by unfold vH;simp[pW]);refine⟨⟨rfl,rfl,rfl,rfl,rfl,rfl,rfl,rfl,by omega,by omega,I,ρ,rfl,rfl,?_,?_,jU⟩,by((try dsimp only);omega)⟩
    ·show fu=(hj k live but (i+1)).length;rw[e];exact uw
    ·show wA τ w' _ _ _ _ _ _ _ (qT k live iu (hj k live but (i+1))) (q7 k live (hj k live but (i+1))) (zk (hj k live but (i+1)));rw[e];exact e2
   ·have pW:but≠(i:Int):=by simpa using pW
    exact⟨⟨rfl,rfl,rfl,rfl,rfl,rfl,rfl,rfl,rfl,rfl,rfl,rfl,rfl,rfl,rfl,rfl,rfl,rfl,rfl,rfl,rfl,rfl,rfl,rfl,rfl,rfl,.inr ⟨rfl,λe=>pW e.symm⟩,rfl⟩,(by dsimp only;decide)⟩
  ·rw[iD (by omega)];have YK:vH k live but i=(decide (0<L)&&decide (L<k)):=by unfold vH;rw[lJ,bB ca,Bool.and_true]
   unfold iX.a1
   have go:∀b,b=vH k live but i->iX.bP q n AL bp 1 xG δ e7 fu fi jw fu jH hM fu h8 (i:Int) ((k-L)*(A+1)) (k+L) p n AM (n:Int) (i:Int) b w' (χ λv w'=>v=(match r6 k live iu but with|none=>.tuple #[.int .i64 0,.int .i64 4]|some g=>.tuple #[.int .i64 (g:Int),.int .i64 0])/\η w w') (λF2 F1 AL AO AN xG xH FU FT FR FX FW FV FZ y0 FY F4 F3 AM F5 uY Qe=>(q=F2/\n=F1/\bp=AO/\1=AN/\δ=xH/\p=F4/\n=F3/\(n:Int)=F5/\0<=uY/\uY<=n/\η w Qe/\μ Qe δ b2 2 (some ⟨δ,0,none⟩) 1 1 (two s k)/\y0=FT/\y0=FW/\y0=(hj k live but uY.toNat).length/\
     wA τ Qe FU FX FZ y0 FR FV FY (qT k live iu (hj k live but uY.toNat)) (q7 k live (hj k live but uY.toNat)) (zk (hj k live but uY.toNat))/\η τ Qe)/\(n-uY).toNat<(n-(i:Int)).toNat):=by
    rintro b rfl;unfold iX.bP;rw[kY];refine bz (λπ=>?_) λπ=>?_
    ·have Jq:hj k live but (i+1)=hj k live but i++[i]:=by rw[YM,π];rfl
     refine e2.push jU (by omega) _ _ _ λab d1 aX d2 bh d3 W jQ Hn=>?_;have N6:η w W:=e4.trans Hn;refine⟨⟨rfl,rfl,rfl,rfl,rfl,rfl,rfl,rfl,by omega,by omega,N6,?_,rfl,rfl,?_,?_,Hn⟩,by((try dsimp only);omega)⟩
     ·exact Ap W Hn
     ·show fu+1=(hj k live but (i+1)).length;rw[Jq,fe,uw];rfl
     ·show wA τ W _ _ _ _ _ _ _ (qT k live iu (hj k live but (i+1))) (q7 k live (hj k live but (i+1))) (zk (hj k live but (i+1)));rw[Jq,aqN,avG,lJ,fb]
      have:zk (hj k live but i++[i])=zk (hj k live but i)++[(i:Int)]:=by simp[zk]
      rw[this];exact jQ
    ·have e:=same π;refine⟨⟨rfl,rfl,rfl,rfl,rfl,rfl,rfl,rfl,by omega,by omega,I,ρ,rfl,rfl,?_,?_,jU⟩,by((try dsimp only);omega)⟩
     ·show fu=(hj k live but (i+1)).length;rw[e];exact uw
     ·show wA τ w' _ _ _ _ _ _ _ (qT k live iu (hj k live but (i+1))) (q7 k live (hj k live but (i+1))) (zk (hj k live but (i+1)));rw[e];exact e2
   refine bz (λhp=>?_) λhp=>?_
   ·have hp:=b7 hp;refine⟨k,ρ.at (j:=1) rfl,?_⟩;exact go _ (by rw[YK,bB (by omega:0<L),O7])
   ·have hp:=dd hp;exact go _ (by rw[YK,iy (by omega:¬0<L)];rfl)
 ·have o:=dd o;obtain rfl:i=n:=by omega
  unfold iX.cd;rw[TI];generalize π:hj k live but i=aT at e2 uw JV;have c4:∀j∈aT,j<i/\vH k live but j=true:=λj φ=>YL j (π▸φ);dsimp only;refine bz (λaL=>?_) λaL=>?_
  ·have aL:fu=0:=by simpa using aL
   have:aT=[]:=sb (by omega)
   subst this;rw[aS rfl];exact χ.mk ⟨rfl,I⟩
  ·have aL:fu≠0:=by simpa using aL
   have ca:aT≠[]:=λe=>by rw[e]at uw;simp at uw;omega
   rw[aM ca];have eT:(qT k live iu aT).length=fu:=by simp[qT,uw]
   have apF:(q7 k live aT).length=fu:=by simp[q7,uw]
   have adS:∀j∈aT,0<=live.getD j 0/\live.getD j 0<=k/\0<=iu.getD j 0/\iu.getD j 0<65536:=λj φ=>by have h1:=JZ _ (Nl (l:=live) (i:=j) (by have:=(c4 j φ).1;omega));have ι:=JK _ (Nl (l:=iu) (i:=j) (by have:=(c4 j φ).1;omega));omega
   have jc:=MH (qT k live iu aT) (q7 k live aT) (ew fu) (by omega);refine κ.use (ahD (n:=fu) e2.ρ.cells e2.ai.cells eT apF (by omega) (λx I=>?_) λx I=>?_) ?_
   ·obtain⟨j,φ,rfl⟩:=gO.1 I
    have:=adS j φ
    have m1:0<=(k-live.getD j 0)*(iu.getD j 0+1):=yU (by omega) (by omega);have m2:(k-live.getD j 0)*(iu.getD j 0+1)<=16*65536:=sd (by omega) (by omega) (by omega) (by omega);omega
   ·obtain⟨j,φ,rfl⟩:=gO.1 I
    have:=adS j φ
    omega
   rintro _ aE ⟨rfl,ak⟩
   try dsimp only[bX,cC,cD,bk,bH]
   rw[<-uw];generalize qH (qT k live iu aT) (q7 k live aT) fu=mE at jc⊢;refine aW (by omega) (aW (by omega) ?_);obtain⟨a,e,r⟩:=(e2.bo.cells.ex ak).many (bw.uC (l:=zk aT) (i:=mE) (x:=((aT.getD mE 0:Nat):Int)) (by unfold zk;rw[List.getElem?_map,List.getD_eq_getElem?_getD,List.getElem?_eq_getElem (by omega)];rfl));exact gG e ⟨_,by rw[cy,ey];exact r,χ.mk ⟨rfl,I.trans ak⟩⟩
end Go.Proofs.YtcpdfhkhaekekaaGreat.G.cL
