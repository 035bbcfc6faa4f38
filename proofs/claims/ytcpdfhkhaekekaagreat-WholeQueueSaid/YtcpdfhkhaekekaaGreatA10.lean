/- The walk of the functions, and the plain laws of the model: part of the proof. Conditions: none. -/
import Derived.Test.YtcpdfhkhaekekaaGreatA9
set_option linter.unusedVariables false
set_option linter.unusedSimpArgs false
namespace Go.Proofs.YtcpdfhkhaekekaaGreat.G.bs
open Tryz
open Go.bI Go.RowKit
theorem oO{α:Type}{l:List α}{i:Nat}(h:i<l.length):∃x,l[i]?=some x/\x∈l/\l.drop i=x::l.drop (i+1):=⟨l[i],List.getElem?_eq_getElem h,hN h,Ij h⟩
def cK(l:ao):aU:=l.map (Value.int .i64)
theorem OP(l:ao):∀y∈cK l,y.oneCell'=true:=GJ _ _
theorem uL{l:ao}{i:Nat}{x:Int}(h:l[i]?=some x):(cK l)[i]?=some (.int .i64 x):=by unfold cK;rw[List.getElem?_map,h];rfl
theorem oW(l:ao):(cK l).length=l.length:=by simp[cK]
def cw(k:Int):Nat:=FloatKind.f64.nearest k
theorem xo:cw 0=0:=by kernel_rfl
theorem Jg(p:J)(n c:Nat)(xs:aU)(w:World)(π:a8 w p xs)(an:xs.length=n)(ar:n<=1000000000000)(h1:∀y∈xs,y.oneCell'=true):
  F7.C p n c w (φ λv w'=>∃bU aT,v=.slice bU n aT/\θ w w'/\μ w' w.heap.size 3 1 bU n aT xs):=by
 apply F7.ok;unfold F7.main;cases p with
 |none=>
  have:xs=[]:=π
  subst this
  have:n=0:=by simpa using an.symm
  subst this
  try dsimp only[JP,BM]
  exact φ.mk ⟨none,0,rfl,θ.refl w,μ.nil _ _ _ _⟩
 |some a=>
  try dsimp only[mB,jb]
  rintro ε δ rfl rfl;have aE:=μ.alloc (w:=w) [] 3 1 0 rfl;have I:=θ.alloc w (.cells #[] 3);refine kT aE (by have:=I.size;exact this) xs (a8.ex I π) (by omega) h1 rfl (by omega) (by omega) λbU aT w' jO hk=>?_;rw[mN]at jO⊢;rw[r9]at jO;exact φ.mk ⟨bU,aT,rfl,I.then hk (λi⟨x,e,o⟩=>by cases e;exact Ii o),jO⟩
def has(l:ao)(k:Int):Bool:=l.any λx=>k==x
theorem Nc{α:Type}{P:α->Bool}{l:List α}{i:Nat}{x:α}(o:l[i]?=some x)(I:P x=true):l.any P=true:=Py.2 ⟨x,eS o,I⟩
theorem any_none{α:Type}{P:α->Bool}{l:List α}(h:∀(j:Nat)x,j<l.length->l[j]?=some x->P x=false):l.any P=false:=by
 rw[Ik];intro x I;obtain⟨j,χ⟩:=List.getElem?_of_mem I
 have:=h j x (List.getElem?_eq_some_iff.1 χ).1 χ
 simp[this]
theorem Oc(l:ao)(k:Int):has l k=true↔k∈l:=by
 unfold has;rw[Py];constructor
 ·rintro⟨x,I,h⟩
  have:k=x:=by simpa using h
  rw[this];exact I
 ·exactλh=>⟨k,h,by simp⟩
theorem XF{w:World}{p:J}{n c:Nat}{xs:ao}(an:a8 w p (cK xs))(ar:xs.length=n)(ω:n<=1000000000000)(k:Int):F8.C p n c k w (φ λv w'=>v=.bool (has xs k)/\θ w w'):=by
 apply F8.ok;unfold F8.main;have main:va.C p n c k w (φ λv w'=>∃r,v=.int .i64 r/\decide (r>=0)=has xs k/\θ w w'):=by
  apply va.ok;unfold va.main;refine⟨λcj cb cu t1 t7 t8 w'=>p=cj/\n=cb/\c=cu/\k=t1/\t7=(n:Int)/\0<=t8/\t8<=(n:Int)/\θ w w'/\∀(j:Nat)x,j<t8.toNat->xs[j]?=some x->(k==x)=false,λcj cb cu t1 t7 t8 w'=>((n:Int)-t8).toNat,?_,?_⟩
  ·exact⟨rfl,rfl,rfl,rfl,rfl,by omega,by omega,θ.refl w,λj x χ=>by simp at χ⟩
  rintro _ _ _ _ _ t8 δ ⟨rfl,rfl,rfl,rfl,rfl,aF,h1,ζ,n4⟩;unfold va.ε;refine bA (λπ=>?_) λπ=>?_
  ·have π:=cd π;obtain⟨x,I,ER,_⟩:=oO (l:=xs) (i:=t8.toNat) (by omega);obtain⟨a,rfl,j0⟩:=(an.ex ζ).many (j:=t8.toNat) (uL I);rw[<-eG t8.toNat]at j0;refine aW aF (aW π ⟨x,j0,?_⟩);refine bA (λag=>?_) λag=>?_
   ·exact φ.mk ⟨t8,rfl,by rw[has,Nc I ag];simpa using aF,ζ⟩
   ·rw[b3 (by omega) (by omega)];refine⟨⟨rfl,rfl,rfl,rfl,rfl,by omega,by omega,ζ,λj y χ s6=>?_⟩,by((try dsimp only);omega)⟩;by_cases Kn:j<t8.toNat
    ·exact n4 j y Kn s6
    ·have:j=t8.toNat:=by omega
     subst this;rw[I]at s6;cases s6;exact ag
  ·have π:=dh π;refine φ.mk ⟨-1,rfl,?_,ζ⟩;rw[has,any_none λj x χ I=>n4 j x (by omega) I];decide
 refine κ.use main ?_;rintro _ δ ⟨r,rfl,σ,ζ⟩
 try dsimp only[bH]
 rw[σ];exact φ.mk ⟨rfl,ζ⟩
theorem Rt(a:Int)(w:World):cmp_isNaN_int.C a w (φ λv w'=>v=.bool false/\w'=w):=by apply cmp_isNaN_int.ok;unfold cmp_isNaN_int.main;exact φ.mk ⟨by simp,rfl⟩
theorem ajb(a:Int)(w:World):Ga.C a w (φ λv w'=>v=.bool false/\w'=w):=by apply Ga.ok;unfold Ga.main;exact φ.mk ⟨by simp,rfl⟩
theorem ai8(a b:Int)(w:World):cmp_Less_int.C a b w (φ λv w'=>v=.bool (decide (a<b))/\w'=w):=by
 apply cmp_Less_int.ok;unfold cmp_Less_int.main;refine κ.use (Rt a w) ?_;rintro _ δ ⟨rfl,rfl⟩
 try dsimp only[dH,jb]
 exact φ.mk ⟨rfl,rfl⟩
def Da(l:ao):Prop:=l.Pairwise (·<·)
theorem ajy{w:World}{p:J}{n c:Nat}{xs:ao}(an:a8 w p (cK xs))(ar:xs.length=n)(ω:n<=1000000000000)(σ:Da xs)(k:Int):
  qy.C p n c k w (φ λv w'=>w'=w/\∃(i:Nat)(f:Bool),v=.tuple #[.int .i64 (i:Int),.bool f]/\i<=n/\(∀x∈xs.take i,x<k)/\∀x∈xs.drop i,k<=x):=by
 apply qy.ok;unfold qy.main;have acq:∀(i j:Nat)x y,xs[i]?=some x->xs[j]?=some y->i<j->x<y:=λi j x y o χ Ez=>by
  have:=CG.1 σ i j (List.getElem?_eq_some_iff.1 o).1 (List.getElem?_eq_some_iff.1 χ).1 Ez
  rw[(List.getElem?_eq_some_iff.1 o).2,(List.getElem?_eq_some_iff.1 χ).2]at this;exact this
 have j0:∀i:Nat,i<n->∃a x,p=some a/\xs[i]?=some x/\w.cell? (a.add (i*1))=some (.int .i64 x):=λi o=>by obtain⟨x,I,_⟩:=oO (l:=xs) (i:=i) (by omega);obtain⟨a,aP,π⟩:=an.many (j:=i) (uL I);rw[<-eG i]at π;exact⟨a,x,aP,I,π⟩
 refine⟨λcj cb cu t1 t6 t7 t8 w'=>p=cj/\n=cb/\c=cu/\k=t1/\t6=(n:Int)/\0<=t7/\t7<=t8/\t8<=(n:Int)/\w=w'/\(∀(j:Nat)x,(j:Int)<t7->xs[j]?=some x->x<k)/\(∀(j:Nat)x,t8<=(j:Int)->xs[j]?=some x->k<=x),λcj cb cu t1 t6 t7 t8 w'=>(t8-t7).toNat,?_,?_⟩
 ·refine⟨rfl,rfl,rfl,rfl,rfl,by omega,by omega,by omega,rfl,λj x χ=>by omega,λj x χ I=>?_⟩
  have:=(List.getElem?_eq_some_iff.1 I).1
  omega
 rintro _ _ _ _ _ e6 o δ ⟨rfl,rfl,rfl,rfl,rfl,aF,h1,η,rfl,pz,Oq⟩;unfold qy.ε;have Kq:IntKind.i64.wrap (Int.fdiv (IntKind.u64.wrap (IntKind.i64.wrap (e6+o))) (2^(min 1 IntKind.u64.bits)))=(e6+o)/2:=by
  have aM:IntKind.u64.wrap (IntKind.i64.wrap (e6+o))=e6+o:=by rw[b3 (by omega) (by omega)];simp[IntKind.wrap,IntKind.signed,IntKind.bits];omega
  have bz:(2:Int)^(min 1 IntKind.u64.bits)=2:=by decide
  rw[aM,bz,Il _ (by omega),b3 (by omega) (by omega)]
 rw[Kq];refine bA (λπ=>?_) λπ=>?_
 ·have π:=cd π;obtain⟨a,x,rfl,I,vW⟩:=j0 ((e6+o)/2).toNat (by omega);refine aW (by omega) (aW (by omega) ⟨x,vW,?_⟩);refine κ.use (ai8 x k w) ?_;rintro _ υ ⟨rfl,rfl⟩
  try dsimp only[dH]
  refine bA (λbQ=>?_) λbQ=>?_
  ·have bQ:=cd bQ;rw[b3 (by omega) (by omega)];refine⟨⟨rfl,rfl,rfl,rfl,rfl,by omega,by omega,by omega,rfl,λj y χ ag=>?_,Oq⟩,by((try dsimp only);omega)⟩;by_cases T3:j=((e6+o)/2).toNat
   ·subst T3;rw[I]at ag;cases ag;exact bQ
   ·have:=acq j _ y x ag I (by omega)
    omega
  ·have bQ:=dh bQ;refine⟨⟨rfl,rfl,rfl,rfl,rfl,by omega,by omega,by omega,rfl,pz,λj y χ ag=>?_⟩,by((try dsimp only);omega)⟩;by_cases T3:j=((e6+o)/2).toNat
   ·subst T3;rw[I]at ag;cases ag;omega
   ·have:=acq _ j x y I ag (by omega)
    omega
 ·have π:=dh π
  have:o=e6:=by omega
  subst this;have fin:∀f:Bool,φ (λv w'=>w'=w/\∃(i:Nat)(f:Bool),v=.tuple #[.int .i64 (i:Int),.bool f]/\i<=n/\(∀x∈xs.take i,x<k)/\∀x∈xs.drop i,k<=x) (.returned (.tuple #[.int .i64 o,.bool f])) w:=λf=>by
   refine φ.mk ⟨rfl,o.toNat,f,by rw[show((o.toNat:Nat):Int)=o by omega],by omega,λx I=>?_,λx I=>?_⟩
   ·obtain⟨j,χ⟩:=List.getElem?_of_mem I;rw[List.getElem?_take]at χ;split at χ
    ·exact pz j x (by omega) χ
    ·cases χ
   ·obtain⟨j,χ⟩:=List.getElem?_of_mem I;rw[List.getElem?_drop]at χ;exact Oq _ x (by omega) χ
  unfold qy.aZ;refine bA (λae=>?_) λ_=>fin false;have ae:=cd ae;obtain⟨a,x,rfl,I,vW⟩:=j0 o.toNat (by omega);refine aW aF (aW (by omega) ⟨x,vW,bA (λ_=>fin true) λ_=>aW aF (aW (by omega) ⟨x,vW,?_⟩)⟩);refine κ.use (ajb x w) ?_;rintro _ υ ⟨rfl,rfl⟩
  try dsimp only[dH,jb]
  exact fin false
def ins(l:ao)(i:Nat)(v:Int):ao:=l.take i++v::l.drop i
theorem ato(w:World):(Go.sizeOf 3).run prog w=.ok 1 w:=ahp.rJ (H:=w.heap) w rfl
theorem ai0{w:World}{B:Nat}{p:J}{n c:Nat}{xs:ao}(aE:μ w B 3 1 p n c (cK xs))(dR:B<=w.heap.size)(ar:n<=1000000){i:Nat}(o:i<=n){zI:Nat}{v:Int}(aL:w.heap[zI]?=some (.cells #[.int .i64 v] 3))(cc:∀x,p=some x->zI≠x.block):
  F9.C p n c (i:Int) (some ⟨zI,0,none⟩) 1 1 w (φ λr w'=>∃bU aT,r=.slice bU (n+1) aT/\μ w' B 3 1 bU (n+1) aT (cK (ins xs i v))/\Kp w w' (λj=>∃x,p=some x/\x.block=j)/\(bU=p\/∀x,bU=some x->w.heap.size<=x.block)):=by
 apply F9.ok;unfold F9.main;have oV:xs.length=n:=by have:=aE.1;rw[oW]at this;omega
 have KK:a8 w (some ⟨zI,0,none⟩) [.int .i64 v]:=λj y χ=>by
  rw[Addr.add_lit];simp only[mN];rw[cell_of_block aL];rcases j with _|j
  ·exact χ
  ·simp at χ
 have apx:IntKind.i64.wrap ((n:Int)+((1:Nat):Int))=(n:Int)+1:=by rw[b3 (by omega) (by omega)];rfl
 have apw:IntKind.i64.wrap ((i:Int)+((1:Nat):Int))=(i:Int)+1:=by rw[b3 (by omega) (by omega)];rfl
 have apu:IntKind.i64.wrap ((n:Int)+1-(i:Int))=(n:Int)+1-(i:Int):=b3 (by omega) (by omega);rw[apx,apw,apu];have aM:(i:Int).toNat=i:=by omega
 have bz:((n:Int)+1).toNat=n+1:=by omega
 have gw:((i:Int)+1).toNat=i+1:=by omega
 have iS:((n:Int)+1-(i:Int)).toNat=n+1-i:=by omega
 rw[aM,bz,gw,iS,aE.atp 1];refine aW (by omega) (aW (by omega) ?_);rw[cond_neg (by decide)];refine bA (λdg=>?_) λdg=>?_
 ·have dg:(i:Int)=(n:Int):=by simpa using dg
  have dg:i=n:=by omega
  subst dg;refine By aE dR [.int .i64 v] KK rfl (by simp[Value.oneCell']) rfl (by omega) (by omega) λbU aT w' hd k' rQ=>?_;have e:cK xs++[.int .i64 v]=cK (ins xs i v):=by unfold ins cK;rw[hr (by omega),q7 (by omega),qt];rfl
  rw[e]at hd;exact φ.mk ⟨bU,aT,rfl,hd,k',rQ⟩
 have dg:¬(i:Int)=(n:Int):=by simpa using dg
 have bQ:i<n:=by omega
 obtain⟨cf,rU,_,Ol⟩:=oO (l:=xs) (i:=i) (by omega);refine bA (λjZ=>?_) λjZ=>?_
 ·have jZ:=cd jZ;have pA:=aE.2.1;refine aW (by omega) (aW (by omega) (aW (by omega) ?_));have aok:=aE.less (k:=i) (by omega);refine akk aok (by omega) (by omega) (by omega) λaT υ k5 Ax τ az=>?_;rw[show i+(n+1-i)=n+1 by omega]at az⊢;have EN:((cK xs).take (i*1)).length=i:=by rw[gY,oW];omega
  have apm:=KK.ex τ;have EL:a8 υ (dA p c i 1) (cK (xs.drop i)):=by
   have:=(aE.cells.ex τ).slice c i n (by rw[oW];omega)
   rw[hr (by rw[kI,oW];omega)]at this;unfold cK at this⊢
   rwa[<-x2]at this
  refine aW (by omega) (aW (by omega) ?_);refine Nu az i apm (by simp;omega) (by simp;omega) (by simp[Value.oneCell']) λaa bu b7=>?_;have Kz:∀x,p=some x->x.block≠w.heap.size:=λx I=>by have:=(aE.typed I).2.2;omega
  have aoY:a8 aa.drew (dA p c i 1) (cK (xs.drop i)):=by
   refine a8.ex (θ.drew aa) (EL.aC b7 λx I⟨y,ag,ω⟩=>?_);cases ag;unfold dA at I;split at I
   ·exact Kz x I ω.symm
   ·cases p with
    |none=>cases I
    |some q=>
     simp only[jd,sb]at I;subst I;rw[yv]at ω;exact Kz q rfl ω.symm
  refine aW (by omega) (aW (by omega) (aW (by omega) (aW (by omega) ?_)));refine Nu (bu.ex (θ.drew aa)) (i+1) aoY (by rw[oW,kI];omega) (by rw[oW,kI];omega) (OP _) λax cm cp=>?_;have rO:∀j,(∃x,some (⟨w.heap.size,0,none⟩:Addr)=some x/\x.block=j)->w.heap.size<=j:=λj⟨x,I,χ⟩=>by cases I;exact Ii χ
  have ju:θ w ax:=((τ.then b7 rO).trans (θ.drew aa)).then cp rO;have SH:List.take (i+1) (List.take i ((cK xs).take (i*1)++k5)++[Value.int .i64 v]++List.drop (i+[Value.int .i64 v].length) ((cK xs).take (i*1)++k5))++cK (xs.drop i)++List.drop (i+1+(cK (xs.drop i)).length) (List.take i ((cK xs).take (i*1)++k5)++[Value.int .i64 v]++List.drop (i+[Value.int .i64 v].length) ((cK xs).take (i*1)++k5))=cK (ins xs i v):=by
   have h1:List.take i ((cK xs).take (i*1)++k5)=cK (xs.take i):=by rw[pb (by omega),AX,eG,Nat.min_self];unfold cK;rw[wF]
   rw[h1];have η:(cK (xs.take i)++[Value.int .i64 v]).length=i+1:=by rw[e9,oW,gY];simp;omega
   have au:∀(R:aU),R.length<=n-i->List.drop (i+1+(cK (xs.drop i)).length) (cK (xs.take i)++[Value.int .i64 v]++R)=[]:=λR ix=>q7 (by rw[e9,η,oW,kI];omega)
   rw[au _ (by simp only[e9,kI,gY,oW,List.length_cons,List.length_nil,Ax];omega),pb (by omega),hr (by omega),pI];unfold ins cK;simp
  rw[SH]at cm;exact φ.mk ⟨_,aT,rfl,cm.lower dR,ju.aC _,.inr λx I=>by cases I;exact eF _⟩
 ·have jZ:=dh jZ;have hp:∃b,p=some ⟨b,0,none⟩:=by
   rcases aE.2.2 with⟨_,h⟩|⟨b,_,_,h,_⟩
   ·omega
   ·exact⟨b,h⟩
  obtain⟨b,rfl⟩:=hp;refine aW (by omega) (aW (by omega) (aW (by omega) (aW (by omega) ?_)));obtain⟨ys,ET,arh⟩:=aE.more (k:=n+1) (by omega) (by omega);have hblk:∃cur fr,w.heap[b]?=some (.cells cur 3 fr)/\cur.size≠0:=by
   rcases aE.2.2 with⟨h,_⟩|⟨gW,cur,fr,h,_,ω,_,iy,_⟩
   ·cases h
   ·cases h;exact⟨cur,fr,ω,by omega⟩
  obtain⟨cur,fr,ω,TF⟩:=hblk;have Ca:dA (some (⟨b,0,none⟩:Addr)) c (i+1) 1=some ⟨b,if c=i+1 then 0 else i+1,none⟩:=by
   unfold dA;split
   ·rfl
   ·simp[Addr.add_lit]
  rw[Ca];refine al6 func143 (by kernel_rfl) (by kernel_rfl) (by kernel_rfl) (t:=35) (r:=4) (e:=3) (by kernel_rfl) underlying35 ato aL ω TF (cc _ rfl) ?_
  try dsimp only[dH]
  simp only[u1,zk,sa,wE];rw[<-Ca];have EL:a8 w.drew (dA (some ⟨b,0,none⟩) c i 1) ((cK (xs.drop i))):=by
   have:=(aE.cells.ex (θ.drew w)).slice c i n (by rw[oW];omega)
   rw[hr (by rw[kI,oW];omega)]at this;unfold cK at this⊢
   rwa[<-x2]at this
  refine aW (by omega) (aW (by omega) (aW (by omega) (aW (by omega) ?_)));refine Nu (arh.ex (θ.drew w)) (i+1) EL (by rw[oW,kI];omega) (by rw[oW,kI];omega) (OP _) λba bS dP=>?_;have apn:a8 ba (some ⟨zI,0,none⟩) [.int .i64 v]:=(KK.ex (θ.drew w)).aC dP λx I⟨y,ag,ω⟩=>by cases I;cases ag;exact cc _ rfl ω.symm
  refine aW (by omega) (aW (by omega) ?_);refine Nu bS i apn (by simp;omega) (by simp;omega) (by simp[Value.oneCell']) λbk eM hK=>?_;have Ov:(cK xs++ys).length=n+1:=by rw[e9,oW,ET];omega
  have SH:∀A:aU,A.length=n+1->A.take i=cK (xs.take i)->List.take i (List.take (i+1) A++cK (xs.drop i)++List.drop (i+1+(cK (xs.drop i)).length) A)++[Value.int .i64 v]++List.drop (i+[Value.int .i64 v].length) (List.take (i+1) A++cK (xs.drop i)++List.drop (i+1+(cK (xs.drop i)).length) A)=cK (ins xs i v):=by
   intro A eY amL;have aF:List.drop (i+1+(cK (xs.drop i)).length) A=[]:=q7 (by rw[oW,kI];omega);have h1:(List.take (i+1) A).length=i+1:=by rw[gY];omega
   rw[aF,pI,pb (by omega),AX,q8 (by omega),amL,CB (by simp;omega),q7 (by simp;omega)];unfold ins cK;simp
  rw[SH _ Ov (by rw[pb (by rw[oW];omega)];unfold cK;rw[wF])]at eM
  exact φ.mk ⟨_,c,rfl,eM,(((θ.drew w).aC _).gr dP).gr hK,.inl rfl⟩
structure hv where
 gT:Int
 blocks:Int
 free:ao
 head:Int
 used:Int
structure Good(s:hv):Prop where
 gT:6<=s.gT/\s.gT<=24
 blocks:2<=s.blocks/\s.blocks<=16
 FQ:Da s.free
 free:∀x∈s.free,0<=x/\x<s.gT
 head:-1<=s.head/\s.head<s.gT
 apart:s.head∉s.free
 used:0<=s.used/\s.used<=s.blocks
def full(s:hv):Bool:=decide (s.head<0)||s.used==s.blocks
def room(s:hv)(k:Int):Bool:=decide (k>=0)&&(!full s||decide ((s.free.length:Int)>k))
def kb(s:hv):hv:=if full s then{s with head:=s.free.head?.getD 0,used:=0,free:=s.free.tail}else s
def next(s:hv)(k:Int):hv×Int×Int×Int:=
 if k<0 then(s,1,0,0)else if room s k then({kb s with used:=(kb s).used+1},0,(kb s).head,(kb s).used)else(s,9,0,0)
def place(k:Int)(l:ao):ao:=l.filter (λx=>decide (x<k))++k::l.filter λx=>!decide (x<k)
def nZ(s:hv)(k:Int):hv×Int:=
 if k<0\/s.gT<=k then(s,1)else if k=s.head\/k∈s.free then(s,12)else({s with free:=place k s.free},0)
def BR:hv->ao->Option hv
 |s,[]=>some s
 |s,k::r=>if(nZ s k).2=0 then BR (nZ s k).1 r else none
def K4(a b:Int):hv:=⟨a,b,[],-1,0⟩
def may(a b:Int):Bool:=decide (6<=a)&&decide (a<=24)&&decide (2<=b)&&decide (b<=16)
def begun(a b:Int)(l:ao):Option hv:=if may a b then BR (K4 a b) l else none
theorem aed:∀(l:ao)(a b:Int),Da l->(∀x∈l,a<=x/\x<b)->a<=b->(l.length:Int)<=b-a
 |[],a,b,_,_,h=>by simp;omega
 |x::r,a,b,σ,an,h=>by
  have I:=an x (by simp);have h1:=List.pairwise_cons.1 σ
  have:=aed r (x+1) b h1.2 (λy ag=>⟨by have:=h1.1 y ag;omega,(an y (h9 _ ag)).2⟩) (by omega)
  simp only[List.length_cons];omega
theorem Good.fZ{s:hv}(h:Good s):s.free.length<=24:=by
 have:=aed s.free 0 s.gT h.FQ h.free (by have:=h.gT;omega)
 have:=h.gT
 omega
theorem Vg{k:Int}{l:ao}{x:Int}:x∈place k l↔x=k\/x∈l:=by
 unfold place;rw[iI,fE,mO,mO];constructor
 ·rintro(h|h|h)
  ·exact .inr h.1
  ·exact .inl h
  ·exact .inr h.1
 ·rintro(h|h)
  ·exact .inr (.inl h)
  ·by_cases I:x<k
   ·exact .inl ⟨h,by simpa using I⟩
   ·exact .inr (.inr ⟨h,by simpa using I⟩)
theorem arW{k:Int}{l:ao}(h:Da l)(hk:k∉l):Da (place k l):=by
 unfold Da place;rw[List.pairwise_append];refine⟨h.filter _,List.pairwise_cons.2 ⟨λy ag=>?_,h.filter _⟩,λa aP b ω=>?_⟩
 ·obtain⟨h1,η⟩:=mO.1 ag;have η:¬y<k:=by simpa using η
  have:y≠k:=λe=>hk (e▸h1)
  omega
 ·obtain⟨h1,η⟩:=mO.1 aP;have η:a<k:=by simpa using η
  rcases fE.1 ω with rfl|ω
  ·exact η
  ·obtain⟨au,bV⟩:=mO.1 ω;have bV:¬b<k:=by simpa using bV
   omega
theorem apJ{l:ao}{i:Nat}{k:Int}(h1:∀x∈l.take i,x<k)(η:∀x∈l.drop i,k<=x):ins l i k=place k l:=by
 unfold ins place;have aM:l.filter (λx=>decide (x<k))=l.take i:=by
  conv=>lhs;rw[<-zm i l]
  rw[Cw,PF.2 λx I=>by simpa using h1 x I,PQ.2 λx I=>by simpa using η x I,pI]
 have bz:l.filter (λx=>!decide (x<k))=l.drop i:=by
  conv=>lhs;rw[<-zm i l]
  have aq:(l.take i).filter (λx=>!decide (x<k))=[]:=PQ.2 λx I=>by simpa using h1 x I
  have a2:(l.drop i).filter (λx=>!decide (x<k))=l.drop i:=PF.2 λx I=>by simpa using η x I
  rw[Cw,aq,a2,r9]
 rw[aM,bz]
theorem arV(k:Int)(l:ao):(place k l).length=l.length+1:=by
 unfold place;rw[e9,List.length_cons]
 induction l with
 |nil=>rfl
 |cons x r cq=>
  rw[List.filter_cons,List.filter_cons];by_cases h:x<k
  ·simp only[h,decide_true,o9,u1,wC,q5,List.length_cons];omega
  ·simp only[h,decide_false,o9,zk,wC,q5,List.length_cons];omega
theorem aai{s:hv}(h:Good s)(k:Int):Good (nZ s k).1:=by
 unfold nZ;split
 ·exact h
 ·split
  ·exact h
  ·rename_i h1 η;have hk:k∉s.free:=λe=>η (.inr e);refine⟨h.gT,h.blocks,arW h.FQ hk,λx I=>?_,h.head,λe=>?_,h.used⟩
   ·rcases Vg.1 I with rfl|I
    ·dsimp only;omega
    ·exact h.free x I
   ·rcases Vg.1 e with e|e
    ·exact η (.inl e.symm)
    ·exact h.apart e
theorem S3{s:hv}(h:Good s){k:Int}(hk:0<=k)(σ:room s k=true)(bf:full s=true):∃x r,s.free=x::r:=by
 cases an:s.free with
 |nil=>simp[room,bf,an]at σ;omega
 |cons x r=>exact⟨x,r,rfl⟩
theorem QC{s:hv}(h:Good s){k:Int}(hk:0<=k)(σ:room s k=true):Good (kb s)/\0<=(kb s).head/\(kb s).used<(kb s).blocks/\(kb s).gT=s.gT/\(kb s).blocks=s.blocks:=by
 unfold kb;cases bf:full s with
 |true=>
  obtain⟨x,r,an⟩:=S3 h hk σ bf;simp only[o9,an,List.head?_cons,PC,List.tail_cons];have kr:=h.FQ;rw[an]at kr;have h1:=List.pairwise_cons.1 kr;have I:=h.free x (by rw[an];simp);have ω:=h.blocks;refine⟨⟨h.gT,h.blocks,h1.2,λy ag=>h.free y (by rw[an];exact h9 _ ag),by((try dsimp only);omega),λe=>?_,by((try dsimp only);omega)⟩,I.1,by((try dsimp only);omega),by trivial,by trivial⟩
  have:=h1.1 x e
  omega
 |false=>
  simp only[wC,q5];unfold full at bf;rw[Pz]at bf;have h1:¬s.head<0:=by simpa using bf.1
  have η:¬s.used=s.blocks:=by simpa using bf.2
  have:=h.used
  exact⟨h,by omega,by omega,by trivial,by trivial⟩
theorem aqE{s:hv}(h:Good s)(k:Int):Good (next s k).1:=by
 unfold next
 split
 ·exact h
 ·split
  ·rename_i hk σ;obtain⟨h1,η,au,bV,c9⟩:=QC h (by omega) σ;exact⟨h1.gT,h1.blocks,h1.FQ,h1.free,h1.head,h1.apart,by have:=h1.used;dsimp only;omega⟩
  ·exact h
theorem aqD{a b:Int}(h:may a b=true):Good (K4 a b):=by simp only[may,kH,pJ]at h;exact⟨⟨h.1.1.1,h.1.1.2⟩,⟨h.1.2,h.2⟩,List.Pairwise.nil,λx I=>(by cases I),(by simp[K4];omega),λe=>(by cases e),(by simp[K4];omega)⟩
structure zU(w:World)(B ps:Nat)(s:hv)(pf:J)(c:Nat):Prop where
 cell:μ w B tK 5 (some ⟨ps,0,none⟩) 1 1 [.int .i64 s.gT,.int .i64 s.blocks,.slice pf s.free.length c,.int .i64 s.head,.int .i64 s.used]
 fr:μ w B 3 1 pf s.free.length c (cK s.free)
def Jq(ps:Nat)(pf:J)(i:Nat):Prop:=i=ps\/∃x,pf=some x/\x.block=i
def lD(w:World)(B ps:Nat)(s:hv)(D:a1):Prop:=∃pf c,zU w B ps s pf c/\∀i,D i↔Jq ps pf i
theorem zU.aC{w w':World}{S:a1}{B ps:Nat}{s:hv}{pf:J}{c:Nat}(h:zU w B ps s pf c)(hk:Kp w w' S)(ψ:∀i,Jq ps pf i->¬S i):zU w' B ps s pf c:=
 ⟨h.cell.aC hk λx I=>by cases I;exact ψ _ (.inl rfl),h.fr.aC hk λx I=>ψ _ (.inr ⟨x,I,rfl⟩)⟩
theorem zU.ex{w w':World}{B ps:Nat}{s:hv}{pf:J}{c:Nat}(h:zU w B ps s pf c)(hk:θ w w'):zU w' B ps s pf c:=h.aC hk λ_ _ h=>h
theorem lD.typed{w:World}{B ps:Nat}{s:hv}{D:a1}(h:lD w B ps s D){i:Nat}(o:D i):(Typed w tK i\/Typed w 3 i)/\B<=i/\i<w.heap.size:=by
 obtain⟨pf,c,h,b1⟩:=h;rcases(b1 i).1 o with rfl|⟨x,I,rfl⟩
 ·exact⟨.inl (h.cell.typed rfl).1,(h.cell.typed rfl).2⟩
 ·exact⟨.inr (h.fr.typed I).1,(h.fr.typed I).2⟩
theorem lD.aC{w w':World}{S:a1}{B ps:Nat}{s:hv}{D:a1}(h:lD w B ps s D)(hk:Kp w w' S)(ψ:∀i,D i->¬S i):lD w' B ps s D:=by obtain⟨pf,c,h,b1⟩:=h;exact⟨pf,c,h.aC hk λi o=>ψ i ((b1 i).2 o),b1⟩
theorem lD.ex{w w':World}{B ps:Nat}{s:hv}{D:a1}(h:lD w B ps s D)(hk:θ w w'):lD w' B ps s D:=h.aC hk λ_ _ h=>h
def GO(w:World)(B ps:Nat)(s:hv)(D:a1)(w':World):Prop:=∃bb,lD w' B ps s bb/\Kp w w' D/\∀i,bb i->D i\/w.heap.size<=i
theorem aak{w:World}{B ps:Nat}{s:hv}{D:a1}(h:lD w B ps s D):Gm.C (some ⟨ps,0,none⟩) w (φ λv w'=>v=.bool (full s)/\θ w w'):=by
 apply Gm.ok;unfold Gm.main;obtain⟨pf,c,h,b1⟩:=h
 try dsimp only[bj]
 simp only[dF];refine⟨_,h.cell.at (j:=3) rfl,bA (λπ aZ=>?_) λπ=>?_⟩
 ·exact φ.mk ⟨by unfold full;rw[π];rfl,θ.drewN _ _⟩
 ·refine⟨_,h.cell.at (j:=4) rfl,_,h.cell.at (j:=1) rfl,λaZ=>?_⟩;exact φ.mk ⟨by unfold full;rw[π];rfl,θ.drewN _ _⟩
theorem X7{w:World}{B ps:Nat}{s:hv}{D:a1}(h:lD w B ps s D)(k:Int):Gl.C (some ⟨ps,0,none⟩) k w (φ λv w'=>v=.bool (room s k)/\θ w w'):=by
 apply Gl.ok;unfold Gl.main;rw[cond_pos (by rfl)]
 try dsimp only[bj]
 unfold room;refine bA (λhk=>?_) λhk=>?_
 ·rw[hk];refine κ.use (aak h) ?_;rintro _ δ ⟨rfl,ζ⟩
  try dsimp only[dH]
  obtain⟨pf,c,h,b1⟩:=h.ex ζ;cases bf:full s with
  |false=>
   rw[cond_pos (by rfl)];exact φ.mk ⟨by simp,ζ⟩
  |true=>
   rw[cond_neg (by rfl)];simp only[dF];refine⟨_,_,_,h.cell.at (j:=2) rfl,?_⟩;exact φ.mk ⟨by simp,ζ⟩
 ·rw[hk];exact φ.mk ⟨rfl,θ.refl w⟩
theorem XS{w:World}{B ps:Nat}{s:hv}{D:a1}(h:lD w B ps s D)(bL:Good s):Gk.C (some ⟨ps,0,none⟩) w (φ λv w'=>θ w w'/\∃p c,v=.tuple #[.slice p s.free.length c,.int .i64 s.head]/\μ w' w.heap.size 3 1 p s.free.length c (cK s.free)):=by
 apply Gk.ok;unfold Gk.main;have xA:=θ.drew w;obtain⟨pf,c,h,b1⟩:=h.ex xA
 try dsimp only[mB,bj,jb]
 simp only[dF];have Hs:=bL.fZ;refine⟨_,_,_,h.cell.at (j:=2) rfl,_,h.cell.at (j:=3) rfl,?_⟩;refine κ.use (Jg pf s.free.length c (cK s.free) w.drew h.fr.cells (oW _) (by omega) (OP _)) ?_;rintro _ δ ⟨bU,aT,rfl,ζ,ρ⟩
 try dsimp only[er]
 exact⟨(h.cell.ex ζ).at (j:=3) rfl,φ.mk ⟨xA.trans ζ,bU,aT,rfl,ρ⟩⟩
theorem MJ(n:Int)(w:World):yA.C n w (φ λv w'=>v=.bool (decide (n>=1)&&decide (n<=16))/\w'=w):=by
 apply yA.ok;unfold yA.main;refine bA (λπ=>?_) λπ=>?_
 ·exact φ.mk ⟨by rw[π];rfl,rfl⟩
 ·exact φ.mk ⟨by rw[π];rfl,rfl⟩
theorem Rv{h u b:Int}(w:World)(eo:0<=h/\h<24)(ω:2<=b/\b<=16)(hu:0<=u/\u<b):yy.C (h*b+u) b w (φ λv w'=>v=.tuple #[.complex .f64 (cw h) (cw u),.int .i64 0]/\θ w w'):=by
 apply yy.ok;unfold yy.main;refine κ.use (MJ b w) ?_;rintro _ δ ⟨rfl,rfl⟩
 try dsimp only[dH]
 rw[cond_neg (by simp;omega)];have aF:0<=h*b:=zn eo.1 (by omega);have h1:h*b<=23*b:=Io (by omega) (by omega);have ae:(h*b+u)/b=h:=by rw[Int.add_comm,V7 _ _ (by omega),LA hu.1 hu.2,Int.zero_add]
 have hm:(h*b+u)%b=u:=by rw[Int.add_comm,Int.add_mul_emod_self_right];exact LI hu.1 hu.2
 rw[iM (by omega),b3 (x:=24*b) (by omega) (by omega),iM (by omega)];refine aW (by omega) (aW (by omega) λaZ=>?_);rw[Int.tdiv_eq_ediv_of_nonneg (by omega),Iv (by omega),ae,hm,b3 (by omega) (by omega)];exact φ.mk ⟨rfl,θ.drewN _ _⟩
theorem X2{w:World}{B ps:Nat}{s:hv}{pf:J}{c:Nat}(h:zU w B ps s pf c)(bL:Good s)(aF:0<=s.head)(hu:s.used<s.blocks){S:Value->ai}
  (ed:∀w',zU w' B ps {s with used:=s.used+1} pf c->Kp w w' (λi=>i=ps)->S (.tuple #[.complex .f64 (cw s.head) (cw s.used),.int .i64 0]) w'):pQ.bP (some ⟨ps,0,none⟩) w (φ S):=by
 unfold pQ.bP;have xA:=θ.drew w;have h:=h.ex xA;have ω:=bL.blocks;have ψ:=bL.gT;have eo:=bL.head;have UA:=bL.used;have EB:0<=s.head*s.blocks:=zn aF (by omega);have B4:s.head*s.blocks<=23*s.blocks:=Io (by omega) (by omega)
 try dsimp only[bj]
 simp only[dF];refine⟨_,h.cell.at (j:=3) rfl,_,h.cell.at (j:=1) rfl,_,h.cell.at (j:=4) rfl,_,h.cell.at (j:=1) rfl,?_⟩;rw[b3 (x:=s.head*s.blocks) (by omega) (by omega),b3 (x:=s.head*s.blocks+s.used) (by omega) (by omega)];refine κ.use (Rv w.drew ⟨aF,by omega⟩ ω ⟨UA.1,hu⟩) ?_;rintro _ δ ⟨rfl,ζ⟩
 try dsimp only[bZ,cC,cD,bj,bH,rH]
 have h1:=h.ex ζ;refine⟨_,h1.cell.at (j:=4) rfl,?_⟩;rw[b3 (x:=s.used+1) (by omega) (by omega)];refine h1.cell.dj (j:=4) (by show 4<1*5;omega) rfl λυ bP az=>?_;have t57:∀i,i=ps->Typed δ tK i:=λi o=>o▸(h1.cell.typed rfl).1;exact φ.mk (ed υ ⟨az,h1.fr.cI bP tK t57 (by decide)⟩ (((xA.trans ζ).aC _).gr bP))
theorem ajf{w:World}{B ps:Nat}{s:hv}{D:a1}(h:lD w B ps s D)(bL:Good s)(dR:B<=w.heap.size)(k:Int):pQ.C (some ⟨ps,0,none⟩) k w (φ λv w'=>v=.tuple #[.complex .f64 (cw (next s k).2.2.1) (cw (next s k).2.2.2),.int .i64 (next s k).2.1]/\GO w B ps (next s k).1 D w'):=by
 apply pQ.ok;unfold pQ.main
 try dsimp only[mB,jb]
 have same:∀w',θ w w'->GO w B ps s D w':=λw' x=>⟨D,h.ex x,x.aC _,λi o=>.inl o⟩;unfold pQ.aZ next
 refine bA (λhk=>?_) λhk=>?_
 ·have hk:=cd hk;rw[aY hk];exact φ.mk ⟨by simp only[xo],same _ (θ.refl w)⟩
 have hk:=dh hk;rw[aN hk];refine κ.use (X7 h k) ?_;rintro _ δ ⟨rfl,ζ⟩
 try dsimp only[bj,dH]
 cases σ:room s k with
 |false=>
  rw[aN (by decide),cond_pos (by rfl)];exact φ.mk ⟨by simp only[xo],same _ ζ⟩
 |true=>
  rw[aY rfl,cond_neg (by rfl)];obtain⟨g1,g2,g3,g4,g5⟩:=QC bL (by omega) σ;refine κ.use (aak (h.ex ζ)) ?_;rintro _ υ ⟨rfl,τ⟩
  try dsimp only[dH]
  have dG:=ζ.trans τ;cases bf:full s with
  |false=>
   try dsimp only[jb]
   have aO:kb s=s:=by unfold kb;rw[bf,aN (by decide)]
   rw[aO]at g1 g2 g3⊢;obtain⟨pf,c,η,b1⟩:=h.ex dG;refine X2 η g1 g2 g3 λaa au b7=>⟨rfl,D,⟨pf,c,au,b1⟩,(dG.aC _).gr (b7.mono λi _ o=>(b1 i).2 (.inl o)),λi o=>.inl o⟩
  |true=>
   try dsimp only[BM]
   obtain⟨x,r,an⟩:=S3 bL (by omega) σ bf;have aO:kb s={s with head:=x,used:=0,free:=r}:=by unfold kb;rw[bf,aY rfl,an];rfl
   rw[aO]at g1 g2 g3⊢;have xA:=θ.drew υ;have gV:=dG.trans xA;obtain⟨pf,c,au,b1⟩:=h.ex gV;generalize υ.drew=aa at au gV⊢;obtain⟨a,rfl,Kf⟩:=au.fr.cells.one (v:=.int .i64 x) (by rw[an];rfl);have hlen:s.free.length=r.length+1:=by rw[an];rfl
   have Hs:=bL.fZ;simp only[dF];refine⟨_,_,_,au.cell.at (j:=2) rfl,aW (by omega) ⟨x,Kf,_,_,_,au.cell.at (j:=2) rfl,aW (by omega) ?_⟩⟩;have EL:a8 aa (dA (some a) c 1 1) (cK r):=by
    have axX:=au.fr.2.1
    have:=au.fr.cells.slice c 1 r.length (by rw[oW];omega)
    rw[an]at this;unfold cK at this⊢;rw[x1,List.drop_succ_cons,PO,hr (by simp)]at this;exact this
   refine κ.use (Jg _ (s.free.length-1) (c-1) (cK r) aa EL (by rw[oW];omega) (by omega) (OP _)) ?_;rintro _ ax ⟨ej,fU,rfl,aA,cm⟩
   try dsimp only[er]
   have bV:=au.ex aA;refine⟨Kp.cell aA Kf λh=>h,bV.cell.at (j:=2) rfl,?_⟩;refine bV.cell.dj (j:=3) (by show 3<1*5;omega) rfl λaG ea cz=>?_;refine cz.dj (j:=4) (by show 4<1*5;omega) rfl λba dP bS=>?_;refine bS.dj (j:=2) (by show 2<1*5;omega) rfl λbk hK eM=>?_;have tW:Kp ax bk λi=>i=ps:=(ea.gr dP).gr hK;have t57:∀i,i=ps->Typed ax tK i:=λi o=>o▸(bV.cell.typed rfl).1;have Fb:=(cm.lower (fo dR gV.size)).cI tW tK t57 (by decide);rw[show s.free.length-1=r.length by omega]at eM Fb;have ai7:Kp w bk D:=((gV.trans aA).aC _).gr (tW.mono λi _ o=>(b1 i).2 (.inl o));refine X2 (s:={s with head:=x,used:=0,free:=r}) (pf:=ej) (c:=fU) ⟨eM,Fb⟩ g1 g2 g3 λb9 dr fN=>⟨rfl,Jq ps ej,⟨ej,fU,dr,λi=>nh⟩,ai7.gr (fN.mono λi _ o=>(b1 i).2 (.inl o)),λi o=>?_⟩;rcases o with o|⟨y,ag,o⟩
   ·exact .inl ((b1 i).2 (.inl o))
   ·have:=(cm.typed ag).2.1
    have:=gV.size
    exact .inr (by omega)
theorem XR{w:World}{B ps:Nat}{s:hv}{D:a1}(h:lD w B ps s D)(bL:Good s)(dR:B<=w.heap.size)(k:Int):sj.C (some ⟨ps,0,none⟩) k w (φ λv w'=>v=.int .i64 (nZ s k).2/\GO w B ps (nZ s k).1 D w'):=by
 apply sj.ok;unfold sj.main
 try dsimp only[mB,bj,jb]
 have same:∀w',θ w w'->GO w B ps s D w':=λw' x=>⟨D,h.ex x,x.aC _,λi o=>.inl o⟩;have bad:(k<0\/s.gT<=k)->sj.aZ (some ⟨ps,0,none⟩) k true w (φ λv w'=>v=.int .i64 (nZ s k).2/\GO w B ps (nZ s k).1 D w'):=λhk=>by
  unfold sj.aZ nZ
  try dsimp only[bj,BM]
  rw[aY hk];exact φ.mk ⟨rfl,same _ (θ.refl w)⟩
 obtain⟨pf,c,h1,b1⟩:=h;have h:lD w B ps s D:=⟨pf,c,h1,b1⟩;refine bA (λhk=>bad (.inl (cd hk))) λhk=>?_;have hk:=dh hk;refine⟨_,h1.cell.at (j:=0) rfl,?_⟩;by_cases qe:k>=s.gT
 ·rw[bC qe];exact bad (.inr qe)
 rw[iJ qe];have qe:¬(k<0\/s.gT<=k):=by omega
 unfold sj.aZ nZ;rw[aN qe]
 try dsimp only[bj,jb]
 simp only[dF];refine⟨_,h1.cell.at (j:=3) rfl,bA (λeo=>?_) λeo=>?_⟩
 ·have eo:k=s.head:=by simpa using eo
  rw[aY (.inl eo)];exact φ.mk ⟨rfl,same _ (θ.refl w)⟩
 have eo:¬k=s.head:=by simpa using eo
 have Hs:=bL.fZ;refine⟨_,_,_,h1.cell.at (j:=2) rfl,?_⟩;refine κ.use (XF h1.fr.cells rfl (by omega) k) ?_;rintro _ υ ⟨rfl,τ⟩
 try dsimp only[dH]
 refine bA (λπ=>?_) λπ=>?_
 ·rw[aY (.inr ((Oc _ _).1 π))];exact φ.mk ⟨rfl,same _ τ⟩
 have π:k∉s.free:=λe=>by rw[(Oc _ _).2 e]at π;cases π
 rw[aN (by rintro(e|e);exact eo e;exact π e)];have η:=h1.ex τ;refine⟨_,_,_,η.cell.at (j:=2) rfl,?_⟩;refine κ.use (ajy η.fr.cells rfl (by omega) bL.FQ k) ?_;rintro _ aa ⟨rfl,i,f,rfl,o,pz,Oq⟩
 try dsimp only[bZ,cC,cD,bj,dH,bH]
 refine⟨_,_,_,η.cell.at (j:=2) rfl,?_⟩;rintro af ax rfl rfl;have aL:(aa.alloc (.cells #[.int .i64 k] 3)).heap[aa.heap.size]?=some (.cells #[.int .i64 k] 3):=Ev aa _;have aA:=θ.alloc aa (.cells #[.int .i64 k] 3);generalize aa.alloc (.cells #[.int .i64 k] 3)=ax at aL aA⊢;have bV:=η.ex aA;refine κ.use (ai0 bV.fr (fo dR (τ.trans aA).size) (by omega) o aL λx I=>by have:=(η.fr.typed I).2.2;omega) ?_;rintro _ aG ⟨fD,h2,rfl,cz,ea,abB⟩
 try dsimp only[er]
 have t3:∀i,(∃x,pf=some x/\x.block=i)->Typed ax 3 i:=λi⟨x,I,o⟩=>o▸(bV.fr.typed I).1;have Zn:=bV.cell.cI ea 3 t3 (by decide);rw[apJ pz Oq]at cz;refine Zn.dj (j:=2) (by show 2<1*5;omega) rfl λba dP bS=>?_;have t57:∀i,i=ps->Typed aG tK i:=λi o=>o▸(Zn.typed rfl).1;have uH:=arV k s.free;have cz:=cz.cI dP tK t57 (by decide);rw[<-uH]at cz bS;refine φ.mk ⟨rfl,Jq ps fD,⟨fD,h2,⟨bS,cz⟩,λi=>nh⟩,(((τ.trans aA).aC _).gr (ea.mono λi _ o=>(b1 i).2 (.inr o))).gr (dP.mono λi _ o=>(b1 i).2 (.inl o)),λi o=>?_⟩;rcases o with o|⟨y,ag,o⟩
 ·exact .inl ((b1 i).2 (.inl o))
 ·rcases abB with e|e
  ·exact .inl ((b1 i).2 (.inr ⟨y,by rw[<-e];exact ag,o⟩))
  ·have:=e y ag
   have:=(τ.trans aA).size
   exact .inr (by omega)
theorem Bj(a b:Int)(w:World):zf.C a b w (φ λv w'=>v=.int .i64 (if may a b then 0 else 1)/\θ w w'):=by
 apply zf.ok;unfold zf.main;rintro ε δ rfl rfl;have ρ:=μ.new (w:=w) [.int .i64 a,.int .i64 b] b5;have ζ:=θ.alloc w (.cells #[.int .i64 a,.int .i64 b] b5);have bad:may a b=false->φ (λv w'=>v=.int .i64 (if may a b then 0 else 1)/\θ w w') (.returned (.int .i64 1)) (w.alloc (.cells #[.int .i64 a,.int .i64 b] b5)):=λh=>φ.mk ⟨by rw[h];rfl,ζ⟩;refine⟨_,ρ.at (j:=0) rfl,bA (λh=>bad ?_) λh=>⟨_,ρ.at (j:=0) rfl,bA (λη=>bad ?_) λη=>⟨_,ρ.at (j:=1) rfl,bA (λau=>bad ?_) λau=>⟨_,ρ.at (j:=1) rfl,bA (λbV=>bad ?_) λbV=>?_⟩⟩⟩⟩
 ·have:=cd h;simp[may];omega
 ·have:=cd η;simp[may];omega
 ·have:=cd au;simp[may];omega
 ·have:=cd bV;simp[may];omega
 ·have h:=dh h;have η:=dh η;have au:=dh au;have bV:=dh bV;have hm:may a b=true:=by simp[may];omega
  exact φ.mk ⟨by rw[hm];rfl,ζ⟩
theorem amt(s:hv)(k:Int)(r:ao):BR s (k::r)=if(nZ s k).2=0 then BR (nZ s k).1 r else none:=rfl
theorem aje{B ι:Nat}{w0:World}{p:J}{n c:Nat}{xs:ao}(an:a8 w0 p (cK xs))(ar:xs.length=n)(ω:n<=100000000000000000){IG:hv}(On:Good IG){w:World}{dY:a1}(Yv:θ w0 w)(dR:w0.heap.size<=B)(Ej:B<=w.heap.size)(aF:lD w B ι IG dY){S:Value->ai}
  (Ho:∀w',BR IG xs=none->θ w0 w'->S (.tuple #[.pointer none,.int .i64 1]) w')(dq:∀w' s D,BR IG xs=some s->Good s->lD w' B ι s D->θ w0 w'->S (.tuple #[.pointer (some ⟨ι,0,none⟩),.int .i64 0]) w'):
  tI.bd ι p n c (n:Int) 0 w (φ S):=by
 refine⟨λt7 q m k t20 t21 w'=>t7=ι/\p=q/\n=m/\c=k/\t20=(n:Int)/\0<=t21/\t21<=(n:Int)/\θ w0 w'/\B<=w'.heap.size/\∃s D,Good s/\lD w' B ι s D/\BR s (xs.drop t21.toNat)=BR IG xs,λt7 q m k t20 t21 w'=>((n:Int)-t21).toNat,?_,?_⟩
 ·exact⟨rfl,rfl,rfl,rfl,rfl,by omega,by omega,Yv,Ej,IG,dY,On,aF,rfl⟩
 clear aF Yv Ej;rintro _ _ _ _ _ t δ ⟨rfl,rfl,rfl,rfl,rfl,apd,rT,yt,BW,s,D,bL,h,dM⟩;unfold tI.ε;refine bA (λπ=>?_) λπ=>?_
 ·have π:=cd π;obtain⟨x,I,_,Ol⟩:=oO (l:=xs) (i:=t.toNat) (by omega);obtain⟨a,rfl,Kf⟩:=(an.ex yt).many (j:=t.toNat) (uL I);rw[<-eG t.toNat]at Kf;refine aW apd (aW π ⟨x,Kf,?_⟩);rw[Ol]at dM;rw[amt]at dM;refine κ.use (XR h bL BW x) ?_;rintro _ υ ⟨rfl,cM,η,bP,Tj⟩
  try dsimp only[bH]
  have fM:θ w0 υ:=yt.then bP λi o=>fo dR (h.typed o).2.1;refine bA (λhe=>?_) λhe=>?_
  ·have he:¬(nZ s x).2=0:=by simpa using he
   rw[aN he]at dM;exact φ.mk (Ho υ dM.symm fM)
  ·have he:(nZ s x).2=0:=by simpa using he
   rw[aY he]at dM;rw[b3 (by omega) (by omega)];refine⟨⟨rfl,rfl,rfl,rfl,rfl,by omega,by omega,fM,fo BW bP.size,_,cM,aai bL x,η,?_⟩,by((try dsimp only);omega)⟩;rw[show(t+1).toNat=t.toNat+1 by omega];exact dM
 ·have π:=dh π;rw[q7 (by omega)]at dM;exact φ.mk (dq δ s D dM.symm bL h yt)
theorem zS(a b:Int){p:J}{n c:Nat}{xs:ao}(w:World)(an:a8 w p (cK xs))(ar:xs.length=n)(ω:n<=100000000000000000):
  tI.C a b p n c w (φ λv w'=>θ w w'/\match begun a b xs with|none=>v=.tuple #[.pointer none,.int .i64 1]|some s=>∃ps,v=.tuple #[.pointer (some ⟨ps,0,none⟩),.int .i64 0]/\Good s/\∃D,lD w' w.heap.size ps s D):=by
 apply tI.ok;unfold tI.main;rintro ε δ rfl rfl;have ρ:=μ.new (w:=w) [.int .i64 a,.int .i64 b] b5;have ζ:=θ.alloc w (.cells #[.int .i64 a,.int .i64 b] b5);generalize w.alloc (.cells #[.int .i64 a,.int .i64 b] b5)=δ at ρ ζ⊢;refine⟨#[.int .i64 a,.int .i64 b],rfl,ρ.cells,?_⟩;refine κ.use (Bj a b δ) ?_;rintro _ υ ⟨rfl,τ⟩
 try dsimp only[bH]
 have dG:=ζ.trans τ;unfold begun;cases hm:may a b with
 |false=>
  simp only[wC,q5];rw[cond_pos (by decide)];exact φ.mk ⟨dG,rfl⟩
 |true=>
  simp only[o9];rw[cond_neg (by decide)];refine⟨#[.int .i64 a,.int .i64 b],rfl,(ρ.ex τ).cells,?_⟩;have TP:Instr.fill (λi=>[(0,2),(2,1),(3,1),(4,1)].toArray[i]?) #[(Value.int .i64 0),(Value.int .i64 0),(Value.slice none 0 0),(Value.int .i64 0),(Value.int .i64 0)] [(0,(Value.agg #[.int .i64 a,.int .i64 b])),(2,(Value.int .i64 (-1)))]=some #[.int .i64 a,.int .i64 b,.slice none 0 0,.int .i64 (-1),.int .i64 0]:=by rfl
  refine gK TP ?_;rintro ι ax rfl rfl;have cm:=μ.new (w:=υ) [.int .i64 a,.int .i64 b,.slice none 0 0,.int .i64 (-1),.int .i64 0] tK;have aA:=θ.alloc υ (.cells #[.int .i64 a,.int .i64 b,.slice none 0 0,.int .i64 (-1),.int .i64 0] tK);have ψ:lD (υ.alloc (.cells #[.int .i64 a,.int .i64 b,.slice none 0 0,.int .i64 (-1),.int .i64 0] tK)) w.heap.size υ.heap.size (K4 a b) (Jq υ.heap.size none):=⟨none,0,⟨cm.lower dG.size,μ.nil _ _ _ _⟩,λi=>nh⟩;generalize υ.alloc (.cells #[.int .i64 a,.int .i64 b,.slice none 0 0,.int .i64 (-1),.int .i64 0] tK)=ax at ψ aA⊢;have ju:=dG.trans aA;refine aje an ar ω (aqD hm) ju (eF _) ju.size ψ (λw' bf X=>?_) λw' s D bf bL h X=>?_
  ·refine⟨X,?_⟩;rw[bf]
  ·refine⟨X,?_⟩;rw[bf];exact⟨_,rfl,bL,D,h⟩
end Go.Proofs.YtcpdfhkhaekekaaGreat.G.bs
namespace Go.Proofs.YtcpdfhkhaekekaaGreat.G.cr
open Go.bI Go.RowKit
def h6(n:Nat)(V:List (Nat×Nat)):ao:=(List.range n).map λi=>((V.filter λx=>x.1==i).length:Int)
theorem DQ(n:Nat)(V:List (Nat×Nat)):(h6 n V).length=n:=by simp[h6]
theorem G3{n:Nat}(V:List (Nat×Nat)){i:Nat}(o:i<n):(h6 n V)[i]?=some ((V.filter λx=>x.1==i).length:Int):=by simp[h6,o]
theorem akV{n:Nat}(V:List (Nat×Nat))(x:Nat×Nat)(I:x.1<n):(h6 n V).set x.1 (((V.filter λy=>y.1==x.1).length:Int)+1)=h6 n (V++[x]):=by
 apply qp;intro i;rw[List.getElem?_set];by_cases o:i<n
 ·rw[G3 _ o,G3 _ o,Cw,e9];by_cases h:x.1=i
  ·subst h;rw[aY rfl,aY (by rw[DQ];exact o)];simp
  ·rw[aN h];simp[h]
 ·rw[aN (by omega),List.getElem?_eq_none (by rw[DQ];omega),List.getElem?_eq_none (by rw[DQ];omega)]
theorem aww{s k:Int}{R:bW}(h:Db s k R){x:Nat×Nat}(I:x∈used R):(x.1:Int)<s:=by
 have:=(VE (s:=s) (k:=k)).1 h.2.2 x I
 unfold HM at this;simp at this;by_cases h1:(x.1:Int)<s
 ·exact h1
 ·have h1:s<=(x.1:Int):=by omega
  have hk:2<=k:=by have:=h.1;unfold may at this;simp at this;omega
  have:=Io h1 (show 0<=k by omega)
  omega
theorem apE(n:Nat)(w:World):w.alloc (.cells (madeCells #[Value.int .i64 0] (n*1)) ck)=w.alloc (.cells ((List.replicate n (0:Int)).map (Value.int .i64)).toArray ck):=by
 congr 2;rw[eG];apply qq;apply List.ext_getElem
 ·simp[madeCells]
 ·intro i h1 η;simp[madeCells,Nat.mod_one]
theorem akW(n:Nat):h6 n []=List.replicate n 0:=by
 apply qp;intro i;by_cases o:i<n
 ·rw[G3 _ o,List.getElem?_replicate,aY o];rfl
 ·rw[List.getElem?_eq_none (by rw[DQ];omega),List.getElem?_eq_none (by simp;omega)]
theorem XG{w:World}{R:bW}{ps:aU}(h:ie w R ps){s k:Int}(hw:Db s k R)(π:(gB (used R)).length<=4096):sL.C (bN R ps).toArray s k w (φ λv w'=>∃q d,v=.tuple #[.slice q s.toNat d,.int .i64 0]/\θ w w'/\μ w' w.heap.size ck 1 q s.toNat d (bs.cK (h6 s.toNat (lays (used R))))):=by
 have Uv:6<=s/\s<=24:=by have:=hw.1;unfold may at this;simp at this;omega
 obtain⟨n,rfl⟩:=eR (show 0<=s by omega);apply sL.ok;unfold sL.main;rintro ε δ rfl rfl ι υ rfl rfl;have ρ:=μ.new (w:=w) (bN R ps) bX;have ζ:=θ.alloc w (.cells (bN R ps).toArray bX);generalize w.alloc (.cells (bN R ps).toArray bX)=δ at ρ ζ⊢;have az:=μ.new (w:=δ) [.int .i64 (n:Int),.int .i64 k] b5;have τ:=θ.alloc δ (.cells #[.int .i64 (n:Int),.int .i64 k] b5);generalize δ.alloc (.cells #[.int .i64 (n:Int),.int .i64 k] b5)=υ at az τ⊢;have ρ:=ρ.ex τ;have fM:=ζ.trans τ;have rK:(bN R ps).toArray.size=24:=by simp[bN,AF,h.len,h.dE]
 refine⟨(bN R ps).toArray,rK,ρ.cells,#[.int .i64 (n:Int),.int .i64 k],rfl,az.cells,?_⟩;refine κ.use (RI (h.ex fM) (n:Int) k) ?_;rintro _ aa ⟨⟨e,rfl,he⟩,ab⟩;obtain rfl:=he.2 hw
 try dsimp only[bH]
 rw[cond_neg (by decide)];have ρ:=ρ.ex ab;have az:=az.ex ab;have hS:=fM.trans ab;refine⟨(n:Int),az.at (j:=0) rfl,bO (bC (by omega)) (bO (bC (by omega)) (bO (bC (by omega)) ?_))⟩;rw[cP];rintro aH aG rfl rfl;rw[apE];have bu:=μ.alloc (w:=aa) ((List.replicate n (0:Int)).map (Value.int .i64)) ck 1 n (by simp);have al:=θ.alloc aa (.cells ((List.replicate n (0:Int)).map (Value.int .i64)).toArray ck);have jc:w.heap.size<=aa.heap.size:=hS.size;generalize aa.alloc (.cells ((List.replicate n (0:Int)).map (Value.int .i64)).toArray ck)=aG at bu al⊢;generalize aa.heap.size=aH at bu jc⊢;have ns:=hS.trans al;have lf:aH<aG.heap.size:=(bu.ge rfl).2;refine⟨(bN R ps).toArray,rK,(ρ.ex al).cells,?_⟩;refine κ.use (X4 (h.ex ns) hw.2.1 π) ?_;rintro _ ba ⟨q,d,fO,br,c2,rfl,aJ,bS⟩
 try dsimp only[bZ,cC,cD,mY,bj,bH,er]
 have kB:=ns.trans aJ;have bu:=(bu.ex aJ).lower (B':=w.heap.size) jc;have Hz:∀x∈lays (used R),(x.1:Int)<n/\gS x:=λx I=>by have hu:=(HX (rj h.ok)).1 I;exact⟨aww hw hu,rj h.ok x hu⟩
 rw[show((List.replicate n (0:Int)).map (Value.int .i64))=bs.cK (h6 n [])by rw[akW];rfl]at bu;have aoo:(lays (used R)).length<=4096:=by rw[<-KW λx=>kt (used R) x,HQ (λx I=>rj h.ok x ((kt _ _).1 I)) (xR _)];exact π
 generalize lays (used R)=V at bS Hz aoo⊢;have axg:aG.heap.size<=ba.heap.size:=aJ.size;unfold sL.bd;refine⟨λnJ nk pj zu zt CM t29 t30 w'=>some ⟨aH,0,none⟩=nJ/\n=nk/\n=pj/\q=zu/\V.length=zt/\(V.length:Int)=t29/\0<=t30/\t30<=V.length/\θ w w'/\μ w' w.heap.size ck 1 (some ⟨aH,0,none⟩) n n (bs.cK (h6 n (V.take t30.toNat)))/\μ w' aG.heap.size eA 1 q V.length d (dE V),
  λ_ _ _ _ _ _ _ t30 _=>(V.length-t30).toNat,⟨rfl,rfl,rfl,rfl,rfl,rfl,by omega,by omega,kB,bu,bS⟩,?_⟩
 clear bu bS kB;rintro _ _ _ _ _ CM _ t30 w' ⟨rfl,rfl,rfl,rfl,rfl,rfl,aF,h1,I,bu,bS⟩;unfold sL.ε;obtain⟨j,rfl⟩:=eR aF;rw[cP]at bu;refine bA (λχ=>?_) λχ=>?_
 ·have χ:=cd χ;have e3:j<V.length:=by omega
  obtain⟨bQ,dq⟩:=Hz _ (hN e3);have aM:(dE V)[j]?=some (dT (some V[j])):=by unfold dE;rw[List.getElem?_map,List.getElem?_eq_getElem e3];rfl
  obtain⟨a,aP,r⟩:=bS.cells.many aM;refine bO (bC aF) (bO (bC χ) ?_);refine gK aP ⟨eI (some V[j]),eQ (some V[j]),by rw[cP,eG];exact r,?_⟩;refine gK (Cl (n:=V[j].1) (by have:=dq.1;omega)).2.2.2.1 (bO (bC (by rw[HL];omega)) (bO (bC (by rw[we];omega)) (bO (bC (by omega)) (bO (bC bQ) ?_))))
  try dsimp only[bj]
  have oQ:(⟨aH,0,none⟩:Addr).add (((V[j].1:Nat):Int).toNat*1)=⟨aH,V[j].1,none⟩:=by rw[Addr.add_lit,cP];simp
  rw[oQ];have qf:V[j].1<n:=by omega
  refine⟨_,bu.at (bs.uL (G3 _ qf)),bO (bC (by omega)) (bO (bC bQ) ?_)⟩;have hle:((V.take j).filter λx=>x.1==V[j].1).length<=4096:=fo (V3 _ _) (by rw[gY];omega);rw[b3 (x:=(((V.take j).filter λx=>x.1==V[j].1).length:Int)+1) (by omega) (by omega)];refine bu.dj (j:=V[j].1) (by omega) rfl λb9 fN ff=>?_;have lM:(bs.cK (h6 n (V.take j))).set V[j].1 (.int .i64 ((((V.take j).filter λx=>x.1==V[j].1).length:Int)+1))=bs.cK (h6 n (V.take (j+1))):=by unfold bs.cK;rw[<-q6,akV _ _ qf,lq e3]
  rw[b3 (x:=(j:Int)+1) (by omega) (by omega)];refine⟨⟨rfl,rfl,rfl,rfl,rfl,rfl,by omega,by omega,I.then fN λi o=>by rw[o];exact(bu.ge rfl).1,?_,?_⟩,by((try dsimp only);omega)⟩
  ·show μ b9 _ _ _ _ _ _ (bs.cK (h6 n (V.take (j+1))));rw[<-lM];exact ff
  ·exact bS.aC fN λx I o=>by have:=(bS.ge I).1;omega
 ·have χ:=dh χ
  have:V.take j=V:=hr (by omega)
  rw[this]at bu;exact φ.mk ⟨some ⟨aH,0,none⟩,n,rfl,I,bu⟩
def Az(V:List (Nat×Nat))(but:ao)(i:Nat):Bool:=((V.filter λx=>x.1==i).length==0)&&!bs.has but (i:Int)
def kC(n:Nat)(V:List (Nat×Nat))(but:ao):ao:=((List.range n).filter (Az V but)).map λ(i:Nat)=>(i:Int)
theorem aaj(n:Nat)(V:List (Nat×Nat))(but:ao):kC (n+1) V but=kC n V but++if Az V but n then[(n:Int)]else[]:=by
 unfold kC;rw[u2,Cw,qt];congr 1;by_cases h:Az V but n=true
 ·simp[h]
 ·simp[h]
theorem S2(n:Nat)(V:List (Nat×Nat))(but:ao):(kC n V but).length<=n:=by unfold kC;rw[jP];exact fo (V3 _ _) (by simp)
theorem Rk{w:World}{R:bW}{ps:aU}(h:ie w R ps){s k:Int}(hw:Db s k R)(π:(gB (used R)).length<=4096){bp:J}{bn bc:Nat}{but:ao}(ω:a8 w bp (bs.cK but))(anw:but.length=bn)(eb:bn<=1000):
  sM.C (bN R ps).toArray s k bp bn bc w (φ λv w'=>∃q d,v=.tuple #[.slice q (kC s.toNat (lays (used R)) but).length d,.int .i64 0]/\θ w w'/\μ w' w.heap.size ck 1 q (kC s.toNat (lays (used R)) but).length d (bs.cK (kC s.toNat (lays (used R)) but))):=by
 have Uv:6<=s/\s<=24:=by have:=hw.1;unfold may at this;simp at this;omega
 obtain⟨n,rfl⟩:=eR (show 0<=s by omega);apply sM.ok;unfold sM.main;rintro ε δ rfl rfl ι υ rfl rfl;have ρ:=μ.new (w:=w) (bN R ps) bX;have ζ:=θ.alloc w (.cells (bN R ps).toArray bX);generalize w.alloc (.cells (bN R ps).toArray bX)=δ at ρ ζ⊢;have az:=μ.new (w:=δ) [.int .i64 (n:Int),.int .i64 k] b5;have τ:=θ.alloc δ (.cells #[.int .i64 (n:Int),.int .i64 k] b5);generalize δ.alloc (.cells #[.int .i64 (n:Int),.int .i64 k] b5)=υ at az τ⊢;have ρ:=ρ.ex τ;have fM:=ζ.trans τ;have rK:(bN R ps).toArray.size=24:=by simp[bN,AF,h.len,h.dE]
 refine⟨(bN R ps).toArray,rK,ρ.cells,#[.int .i64 (n:Int),.int .i64 k],rfl,az.cells,?_⟩;refine κ.use (XG (h.ex fM) hw π) ?_;rintro _ aa ⟨q,d,rfl,ab,bu⟩
 try dsimp only[bZ,cC,cD,bj,bH,er]
 rw[cond_neg (by decide)];rw[cP]at bu⊢;have hS:=fM.trans ab;have n0:(lays (used R)).length<=4096:=by rw[<-KW λx=>kt (used R) x,HQ (λx I=>rj h.ok x ((kt _ _).1 I)) (xR _)];exact π
 generalize lays (used R)=V at bu n0⊢;unfold sM.bd;refine⟨λez et eT fh fa fq IT IS L9 t23 t24 w'=>bp=ez/\bn=et/\q=IT/\n=IS/\(n:Int)=t23/\0<=t24/\t24<=n/\θ w w'/\θ aa w'/\fa=(kC t24.toNat V but).length/\μ w' aa.heap.size ck 1 fh fa fq (bs.cK (kC t24.toNat V but)),
  λ_ _ _ _ _ _ _ _ _ _ t24 _=>(n-t24).toNat,⟨rfl,rfl,rfl,rfl,rfl,by omega,by omega,hS,θ.refl _,rfl,μ.nil aa aa.heap.size ck 1⟩,?_⟩
 rintro _ _ eT fh fa fq _ _ L9 _ t24 w' ⟨rfl,rfl,rfl,rfl,rfl,aF,h1,I,nz,an,γ⟩;unfold sM.ε;obtain⟨j,rfl⟩:=eR aF;rw[cP]at an γ;have lh:IntKind.i64.wrap ((j:Int)+1)=((j+1:Nat):Int):=by rw[b3 (by omega) (by omega)];rfl
 have vZ:=S2 j V but;refine bA (λχ=>?_) λχ=>?_
 ·have χ:=cd χ;have e3:j<n:=by omega
  obtain⟨a,aP,r⟩:=(bu.ex nz).cells.many (bs.uL (G3 V e3));refine bO (bC aF) (bO (bC χ) ?_);refine gK aP ⟨_,by rw[cP,eG];exact r,?_⟩;rw[lh];have stay:Az V but j=false->kC (j+1) V but=kC j V but:=λe=>by rw[aaj,e];simp
  refine bA (λN3=>?_) λN3=>?_
  ·refine κ.use (bs.XF (ω.ex I) anw (by omega) (j:Int)) ?_;rintro _ aG ⟨rfl,al⟩
   try dsimp only[dH]
   have aI:((V.filter λx=>x.1==j).length==0)=true:=by simpa using N3
   have cz:=γ.ex al;cases eo:bs.has but (j:Int)with
   |true=>
    rw[u1,wE];have e:=stay (by unfold Az;rw[eo];simp);refine⟨⟨rfl,rfl,rfl,rfl,rfl,by omega,by omega,I.trans al,nz.trans al,?_,?_⟩,by((try dsimp only);omega)⟩
    ·show fa=(kC (j+1) V but).length;rw[e];exact an
    ·show μ aG _ _ _ _ _ _ (bs.cK (kC (j+1) V but));rw[e];exact cz
   |false=>
    rw[zk,sa];rintro af bk rfl rfl;have aV:=θ.alloc aG (.cells #[.int .i64 (j:Int)] ck);have lX:a8 (aG.alloc (.cells #[.int .i64 (j:Int)] ck)) (some ⟨aG.heap.size,0,none⟩) [.int .i64 (j:Int)]:=a8.alloc _ ck;generalize aG.alloc (.cells #[.int .i64 (j:Int)] ck)=bk at aV lX⊢;have M8:=al.trans aV;refine kT (γ.ex M8) (nz.trans M8).size [.int .i64 (j:Int)] lX rfl (λy ag=>by simp only[lp]at ag;subst ag;rfl) rfl (by omega) (by omega) λej fU b9 ff fN=>?_;have e:kC (j+1) V but=kC j V but++[(j:Int)]:=by rw[aaj];unfold Az;rw[eo,aI];rfl
    have low:∀i,(∃x,fh=some x/\x.block=i)->aa.heap.size<=i:=λi⟨x,I,o⟩=>o▸(γ.ge I).1;refine⟨⟨rfl,rfl,rfl,rfl,rfl,by omega,by omega,(I.trans M8).then fN λi o=>fo hS.size (low i o),(nz.trans M8).then fN low,?_,?_⟩,by((try dsimp only);omega)⟩
    ·show fa+1=(kC (j+1) V but).length;rw[e,e9,an];rfl
    ·show μ b9 _ _ _ _ _ _ (bs.cK (kC (j+1) V but));rw[e]
     have:bs.cK (kC j V but++[(j:Int)])=bs.cK (kC j V but)++[.int .i64 (j:Int)]:=by simp[bs.cK]
     rw[this];exact ff
  ·have aI:((V.filter λx=>x.1==j).length==0)=false:=by
    cases ay:((V.filter λx=>x.1==j).length==0)with
    |false=>rfl
    |true=>
     have:(V.filter λx=>x.1==j).length=0:=by simpa using ay
     rw[this]at N3;cases N3
   have e:=stay (by unfold Az;rw[aI];rfl);refine⟨⟨rfl,rfl,rfl,rfl,rfl,by omega,by omega,I,nz,?_,?_⟩,by((try dsimp only);omega)⟩
   ·show fa=(kC (j+1) V but).length;rw[e];exact an
   ·show μ w' _ _ _ _ _ _ (bs.cK (kC (j+1) V but));rw[e];exact γ
 ·have χ:=dh χ;obtain rfl:j=n:=by omega
  subst an;exact φ.mk ⟨fh,fq,rfl,I,γ.lower hS.size⟩
theorem asw{a b:Int}(h:0<=a/\a<=1048576/\1<=b/\b<=1048576)(w:World):FO.C a b w (φ λv w'=>v=.bool true/\w'=w):=by apply FO.ok;unfold FO.main;rw[cond_pos (bC (by omega)),cond_pos (bC (by omega)),cond_pos (bC (by omega))];exact φ.mk ⟨by rw[bC (by omega)],rfl⟩
def Nt(a b:Int):Int:=if a<b then-1 else if b<a then 1 else 0
theorem aix(a b:Int)(w:World):DO.C a b w (φ λv w'=>v=.int .i64 (Nt a b)/\w'=w):=by
 apply DO.ok;unfold DO.main;refine κ.use (bs.Rt a w) ?_;rintro _ δ ⟨rfl,aM⟩;obtain rfl:=aM.symm
 try dsimp only[dH,jb]
 refine κ.use (bs.Rt b _) ?_;rintro _ υ ⟨rfl,bz⟩;obtain rfl:=bz.symm
 try dsimp only[dH,jb]
 unfold Nt;refine bA (λh=>?_) λh=>bA (λeX=>?_) λeX=>?_
 ·exact φ.mk ⟨by rw[aY (cd h)],rfl⟩
 ·exact φ.mk ⟨by rw[aN (dh h),aY (cd eX)],rfl⟩
 ·exact φ.mk ⟨by rw[aN (dh h),aN (dh eX)],rfl⟩
theorem akX{a b c d:Int}(aP:0<=a/\a<=1048576)(ω:1<=b/\b<=1048576)(π:0<=c/\c<=1048576)(ae:1<=d/\d<=1048576)(w:World):FN.C a b c d w (φ λv w'=>v=.int .i64 (Nt (a*d) (c*b))/\w'=w):=by
 apply FN.ok;unfold FN.main;have h1:0<=a*d:=zn aP.1 (by omega);have η:a*d<=1048576*1048576:=se aP.2 ae.2 (by omega) (by omega);have au:0<=c*b:=zn π.1 (by omega);have bV:c*b<=1048576*1048576:=se π.2 ω.2 (by omega) (by omega);rw[b3 (x:=a*d) (by omega) (by omega),b3 (x:=c*b) (by omega) (by omega)];refine κ.use (aix _ _ w) ?_;rintro _ δ ⟨rfl,aM⟩;obtain rfl:=aM.symm
 try dsimp only[bH]
 exact φ.mk ⟨rfl,rfl⟩
theorem ajx{l b a:Int}(ω:2<=b/\b<=16)(an:0<=l/\l<=b)(aP:0<=a/\a<65536)(w:World):FM.C l b a w (φ λv w'=>v=.tuple #[.int .i64 ((b-l)*(a+1)),.int .i64 (b+l),.int .i64 0]/\w'=w):=by apply FM.ok;unfold FM.main;rw[cond_neg (iJ (by omega)),cond_neg (iJ (by omega)),cond_neg (iJ (by omega)),cond_neg (iJ (by omega)),cond_neg (iJ (by omega)),cond_neg (iJ (by omega))];have h1:0<=(b-l)*(a+1):=zn (by omega) (by omega);have η:(b-l)*(a+1)<=16*65536:=se (by omega) (by omega) (by omega) (by omega);rw[b3 (x:=b-l) (by omega) (by omega),b3 (x:=a+1) (by omega) (by omega),b3 (x:=(b-l)*(a+1)) (by omega) (by omega),b3 (x:=b+l) (by omega) (by omega)];exact φ.mk ⟨rfl,rfl⟩
def qR(os us:ao):Nat->Nat
 |0=>0
 |k+1=>if Nt (os.getD k 0*us.getD (qR os us k) 0) (os.getD (qR os us k) 0*us.getD k 0)>0 then k else qR os us k
theorem Ni(os us:ao):∀{k n:Nat},k<=n->1<=n->qR os us k<n
 |0,n,_,h=>h
 |k+1,n,h,h1=>by
  unfold qR;split
  ·omega
  ·exact Ni os us (by omega) h1
theorem Ef{l:ao}{i:Nat}(h:i<l.length):l[i]?=some (l.getD i 0):=by rw[List.getD_eq_getElem?_getD,List.getElem?_eq_getElem h];rfl
theorem ais{w:World}{p q:J}{n c d:Nat}{os us:ao}(aE:a8 w p (bs.cK os))(hu:a8 w q (bs.cK us))(Ui:os.length=n)(mG:us.length=n)(ar:1<=n/\n<=4096)
  (aoH:∀x∈os,0<=x/\x<=1048576)(UA:∀x∈us,1<=x/\x<=1048576):tr.C p n c q n d w (φ λv w'=>v=.tuple #[.int .i64 (qR os us n:Nat),.int .i64 0]/\θ w w'):=by
 apply tr.ok;unfold tr.main;rw[cond_neg (by simp),cond_neg (by simp;omega),cond_neg (iJ (by omega))];unfold tr.bd;refine⟨λcj cb cu mg mf pR t6 t24 t25 w'=>p=cj/\n=cb/\q=mg/\n=mf/\(n:Int)=t24/\0<=t25/\t25<=n/\t6=(qR os us t25.toNat:Nat)/\θ w w',λ_ _ _ _ _ _ _ _ t25 _=>(n-t25).toNat,⟨rfl,rfl,rfl,rfl,rfl,by omega,by omega,rfl,θ.refl w⟩,?_⟩;rintro _ _ cu _ _ pR _ _ t25 w' ⟨rfl,rfl,rfl,rfl,rfl,aF,h1,rfl,I⟩;unfold tr.ε;obtain⟨j,rfl⟩:=eR aF;rw[cP];refine bA (λχ=>?_) λχ=>?_
 ·have χ:=cd χ;have e3:j<n:=by omega
  have ω:=Ni os us (show j<=n by omega) ar.1;generalize xy:qR os us j=b at ω⊢;have g:=λ{i:Nat}(o:i<n)(W:World)(eE:θ w W)=>(aE.ex eE).many (bs.uL (Ef (l:=os) (i:=i) (by omega)));have xq:=λ{i:Nat}(o:i<n)(W:World)(eE:θ w W)=>(hu.ex eE).many (bs.uL (Ef (l:=us) (i:=i) (by omega)));have ζ:=I.trans (θ.drew w');have ro:=λ{i:Nat}(o:i<n)=>aoH _ (eS (Ef (l:=os) (i:=i) (by omega)));have P1:=λ{i:Nat}(o:i<n)=>UA _ (eS (Ef (l:=us) (i:=i) (by omega)));have NN:j*1=j:=eG j;have NM:(((b:Nat):Int).toNat*1)=b:=by omega
  have fI:=bC aF;have Nr:=bC χ;have Zk:decide (0<=((b:Nat):Int))=true:=bC (by omega);have ja:decide (((b:Nat):Int)<((n:Nat):Int))=true:=bC (by omega);obtain⟨aq,aM,cS⟩:=g e3 _ ζ;obtain⟨a2,bz,fX⟩:=xq e3 _ ζ;refine bO fI (bO Nr (gK aM ⟨_,by rw[NN];exact cS,bO fI (bO Nr (gK bz ⟨_,by rw[NN];exact fX,?_⟩))⟩));refine κ.use (asw ⟨(ro e3).1,(ro e3).2,(P1 e3).1,(P1 e3).2⟩ _) ?_;rintro _ δ ⟨rfl,Ai⟩;obtain rfl:=Ai.symm
  try dsimp only[dH]
  have τ:=ζ.trans (θ.drew w'.drew);obtain⟨a3,gw,jC⟩:=g e3 _ τ;obtain⟨a4,iS,qu⟩:=xq e3 _ τ;obtain⟨a5,ig,CH⟩:=g ω _ τ;obtain⟨aj5,nY,asA⟩:=xq ω _ τ;refine bO Nr (gK gw ⟨_,by rw[NN];exact jC,bO fI (bO Nr (gK iS ⟨_,by rw[NN];exact qu,bO Zk (bO ja (gK ig ⟨_,by rw[NM];exact CH,bO Zk (bO ja (gK nY ⟨_,by rw[NM];exact asA,?_⟩))⟩))⟩))⟩);refine κ.use (akX (ro e3) (P1 e3) (ro ω) (P1 ω) _) ?_;rintro _ aa ⟨rfl,Ai⟩;obtain rfl:=Ai.symm
  try dsimp only[bH]
  have lh:IntKind.i64.wrap ((j:Int)+1)=((j+1:Nat):Int):=by rw[b3 (by omega) (by omega)];rfl
  rw[lh];refine bA (λbL=>?_) λbL=>?_
  ·refine⟨⟨rfl,rfl,rfl,rfl,rfl,by omega,by omega,?_,τ⟩,by((try dsimp only);omega)⟩;show((j:Nat):Int)=(qR os us (j+1):Nat);unfold qR;rw[xy,aY (cd bL)]
  ·refine⟨⟨rfl,rfl,rfl,rfl,rfl,by omega,by omega,?_,τ⟩,by((try dsimp only);omega)⟩;show((b:Nat):Int)=(qR os us (j+1):Nat);unfold qR;rw[xy,aN (dh bL)]
 ·have χ:=dh χ;obtain rfl:j=n:=by omega
  exact φ.mk ⟨rfl,I⟩
theorem akR{w:World}{B q:Nat}{s k x:Int}(γ:μ w B b5 2 (some ⟨q,0,none⟩) 1 1 [.int .i64 s,.int .i64 k])(I:0<=x/\x<=k):DM.C x q w (φ λv w'=>v=.bool false/\w'=w):=by apply DM.ok;unfold DM.main;rw[cond_neg (iJ (by omega))];exact⟨k,γ.at (j:=1) rfl,φ.mk ⟨by rw[iJ (by omega)],rfl⟩⟩
theorem aiY{w:World}{B q:Nat}{s k:Int}{p:J}{n c:Nat}{xs:ao}(π:a8 w p (bs.cK xs))(ar:xs.length=n)(ω:n<=100000)(γ:μ w B b5 2 (some ⟨q,0,none⟩) 1 1 [.int .i64 s,.int .i64 k])(I:∀x∈xs,0<=x/\x<=k):tF.C p n c q w (φ λv w'=>v=.int .i64 (-1)/\w'=w):=by
 apply tF.ok;unfold tF.main tF.bd;refine⟨λcj cb cu t1 t7 t8 w'=>p=cj/\n=cb/\q=t1/\(n:Int)=t7/\0<=t8/\t8<=n/\w=w',λ_ _ _ _ _ t8 _=>(n-t8).toNat,⟨rfl,rfl,rfl,rfl,by omega,by omega,rfl⟩,?_⟩;rintro _ _ cu _ _ t8 _ ⟨rfl,rfl,rfl,rfl,aF,h1,rfl⟩;unfold tF.ε;obtain⟨j,rfl⟩:=eR aF;refine bA (λχ=>?_) λχ=>φ.mk ⟨rfl,rfl⟩;have χ:=cd χ;have e3:j<xs.length:=by omega
 obtain⟨a,aP,r⟩:=π.many (bs.uL (List.getElem?_eq_getElem e3));refine bO (bC aF) (bO (bC χ) (gK aP ⟨_,by rw[cP,eG];exact r,?_⟩));refine κ.use (akR γ (I _ (hN e3))) ?_;rintro _ δ ⟨rfl,aM⟩;obtain rfl:=aM.symm
 try dsimp only[dH,jb]
 rw[b3 (x:=(j:Int)+1) (by omega) (by omega)];exact⟨⟨rfl,rfl,rfl,rfl,by omega,by omega,rfl⟩,by((try dsimp only);omega)⟩
theorem ak4{w:World}{s k:Int}(hm:bs.may s k=true){p:J}{n c:Nat}{xs:ao}(π:a8 w p (bs.cK xs))(ar:xs.length=n)(ψ:(n:Int)=s)(I:∀x∈xs,0<=x/\x<=k):DL.C s k p n c w (φ λv w'=>v=.bool true/\θ w w'):=by
 have iv:6<=s/\s<=24:=by unfold bs.may at hm;simp at hm;omega
 apply DL.ok;unfold DL.main;rintro ε δ rfl rfl;have ρ:=μ.new (w:=w) [.int .i64 s,.int .i64 k] b5;have ζ:=θ.alloc w (.cells #[.int .i64 s,.int .i64 k] b5);generalize w.alloc (.cells #[.int .i64 s,.int .i64 k] b5)=δ at ρ ζ⊢;refine⟨#[.int .i64 s,.int .i64 k],rfl,ρ.cells,?_⟩;refine κ.use (bs.Bj s k δ) ?_;rintro _ υ ⟨rfl,τ⟩;rw[hm]
 try dsimp only[bH]
 rw[cond_pos (by decide)];have ρ:=ρ.ex τ;refine⟨s,ρ.at (j:=0) rfl,?_⟩;rw[cond_pos (by simpa using ψ)];refine κ.use (S:=λv w'=>v=.bool false/\θ υ w') ?_ ?_
 ·apply IM.ok;unfold IM.main;refine κ.use (aiY (π.ex (ζ.trans τ)) ar (by omega) ρ I) ?_;rintro _ aa ⟨rfl,gw⟩;obtain rfl:=gw.symm
  try dsimp only[bH]
  exact φ.mk ⟨rfl,θ.refl _⟩
 rintro _ ax ⟨rfl,aA⟩
 try dsimp only[dH]
 exact φ.mk ⟨rfl,(ζ.trans τ).trans aA⟩
end Go.Proofs.YtcpdfhkhaekekaaGreat.G.cr
namespace Go.Proofs.YtcpdfhkhaekekaaGreat.G.eh
open Go.bI Go.RowKit cr
def Jo(w:World)(q:J)(l:List eg):Prop:=(q=none/\l=List.replicate 8 none)\/∃b,q=some ⟨b,0,none⟩/\μ w 0 yc 8 (some ⟨b,0,none⟩) 1 1 (l.map dT)
def sE(w:World)(i:Nat):Prop:=Typed w tL i\/Typed w vf i\/Typed w yc i
structure zW(w:World)(b n:Nat)(L:List eg)(p:J)(c:Nat)(qs:List J):Prop where
 size:1<=n/\n<=32
 len:L.length=8*qs.length
 many:qs.length=(n+7)/8
 ok:∀x∈L,ki x
 cell:μ w 0 tL 2 (some ⟨b,0,none⟩) 1 1 [.int .i64 (n:Int),.slice p qs.length c]
 row:μ w 0 vf 1 p qs.length c (qs.map Value.pointer)
 bm:∀(k:Nat)(q:J),qs[k]?=some q->Jo w q ((L.drop (8*k)).take 8)
def TabIs(w:World)(hM:J)(n:Nat)(L:List eg):Prop:=∃b p c qs,hM=some ⟨b,0,none⟩/\zW w b n L p c qs
theorem Jo.aC{w w':World}{q:J}{l:List eg}(h:Jo w q l){S:a1}(k:Kp w w' S)(ψ:∀i,S i->¬sE w i):Jo w' q l:=by
 rcases h with h|⟨b,ay,h⟩
 ·exact .inl h
 ·exact .inr ⟨b,ay,h.aC k λx I o=>ψ _ o (.inr (.inr (h.typed I).1))⟩
theorem zW.aC{w w':World}{b n:Nat}{L:List eg}{p:J}{c:Nat}{qs:List J}(h:zW w b n L p c qs){S:a1}(k:Kp w w' S)(ψ:∀i,S i->¬sE w i):zW w' b n L p c qs:=
 ⟨h.size,h.len,h.many,h.ok,h.cell.aC k λx I o=>ψ _ o (.inl (h.cell.typed I).1),h.row.aC k λx I o=>ψ _ o (.inr (.inl (h.row.typed I).1)),λi q ay=>(h.bm i q ay).aC k ψ⟩
theorem TabIs.aC{w w':World}{hM:J}{n:Nat}{L:List eg}(h:TabIs w hM n L){S:a1}(k:Kp w w' S)(ψ:∀i,S i->¬sE w i):TabIs w' hM n L:=by obtain⟨b,p,c,qs,e,h⟩:=h;exact⟨b,p,c,qs,e,h.aC k ψ⟩
theorem zW.ex{w w':World}{b n:Nat}{L:List eg}{p:J}{c:Nat}{qs:List J}(h:zW w b n L p c qs)(x:θ w w'):zW w' b n L p c qs:=h.aC x λ_ h=>h.elim
theorem TabIs.ex{w w':World}{hM:J}{n:Nat}{L:List eg}(h:TabIs w hM n L)(x:θ w w'):TabIs w' hM n L:=h.aC x λ_ h=>h.elim
theorem TabIs.len{w:World}{hM:J}{n:Nat}{L:List eg}(h:TabIs w hM n L):1<=n/\n<=32/\n<=L.length/\∀x∈L,ki x:=by
 obtain⟨b,p,c,qs,e,h⟩:=h
 have:=h.len
 have:=h.many
 have:=h.size
 exact⟨by omega,by omega,by omega,h.ok⟩
theorem WO{j:Nat}(h:j<1000):IntKind.i64.wrap (Int.tdiv (j:Int) 8)=((j/8:Nat):Int):=by have e:Int.tdiv (j:Int) 8=((j/8:Nat):Int):=rfl;rw[e,b3 (by omega) (by omega)]
theorem ahs(j:Nat):Int.tmod (j:Int) 8=((j%8:Nat):Int):=rfl
theorem RY{w:World}{hM:J}{n:Nat}{L:List eg}(h:TabIs w hM n L){j:Nat}(χ:j<n):GC.C hM (j:Int) w (φ λv w'=>v=dT (L.getD j none)/\w'=w):=by
 obtain⟨b,p,c,qs,rfl,h⟩:=h;have ar:=h.size;have hm:=h.many;have an:=h.len;apply GC.ok;unfold GC.main
 try dsimp only[bj]
 rw[WO (by omega),ahs];simp only[dF];refine⟨p,_,c,h.cell.at (j:=1) rfl,aW (by omega) (aW (by omega) ?_)⟩;have hk:j/8<qs.length:=by omega
 obtain⟨a,aP,r⟩:=h.row.cells.many (j:=j/8) (v:=.pointer qs[j/8]) (by rw[List.getElem?_map,List.getElem?_eq_getElem hk];rfl);refine gK aP ⟨_,by rw[cP,eG];exact r,?_⟩;have lK:=h.bm (j/8) qs[j/8] (List.getElem?_eq_getElem hk);have mZ:L.getD j none=((L.drop (8*(j/8))).take 8).getD (j%8) none:=by rw[List.getD_eq_getElem?_getD,List.getD_eq_getElem?_getD,List.getElem?_take,aY (by omega),List.getElem?_drop,show 8*(j/8)+j%8=j by omega]
 rcases lK with⟨ay,σ⟩|⟨ι,ay,γ⟩
 ·rw[ay,cond_neg (by rfl)];refine φ.mk ⟨?_,rfl⟩;rw[mZ,σ,List.getD_eq_getElem?_getD,List.getElem?_replicate,aY (by omega)];rfl
 ·rw[ay,cond_pos (by rfl)];refine gK rfl (aW (by omega) (aW (by omega) ?_));simp only[dF];have bQ:j%8<((L.drop (8*(j/8))).take 8).length:=by rw[gY,kI];omega
  refine⟨_,_,by rw[cP,eG];exact γ.at (j:=j%8) (v:=dT (((L.drop (8*(j/8))).take 8)[j%8])) (by rw[List.getElem?_map,List.getElem?_eq_getElem bQ];rfl),?_⟩;refine φ.mk ⟨?_,rfl⟩;rw[mZ,List.getD_eq_getElem?_getD,List.getElem?_eq_getElem bQ];rfl
theorem WQ{w:World}{hM:J}{n:Nat}{L:List eg}(h:TabIs w hM n L)(j:Int):GD.C hM j w (φ λv w'=>v=.int .i64 (if 0<=j/\j<n then 0 else 5)/\w'=w):=by
 obtain⟨b,p,c,qs,rfl,h⟩:=h;apply GD.ok;unfold GD.main
 try dsimp only[mB,bj,jb]
 refine bA (λaF=>?_) λaF=>?_
 ·have aF:=cd aF;rw[aN (by omega)];exact φ.mk ⟨rfl,rfl⟩
 ·have aF:=dh aF;refine⟨n,h.cell.at (j:=0) rfl,bA (λh1=>?_) λh1=>?_⟩
  ·have h1:=cd h1;rw[aN (by omega)];exact φ.mk ⟨rfl,rfl⟩
  ·have h1:=dh h1;rw[aY (by omega)];exact φ.mk ⟨rfl,rfl⟩
theorem M0{w:World}{hM:J}{n:Nat}{L:List eg}(h:TabIs w hM n L):zE.C hM w (φ λv w'=>v=.int .i64 (n:Int)/\w'=w):=by
 obtain⟨b,p,c,qs,rfl,h⟩:=h;apply zE.ok;unfold zE.main
 try dsimp only[mB,bj,jb]
 exact⟨n,h.cell.at (j:=0) rfl,φ.mk ⟨rfl,rfl⟩⟩
theorem ajB(w:World):zE.C none w (φ λv w'=>v=.int .i64 0/\w'=w):=by
 apply zE.ok;unfold zE.main
 try dsimp only[JP,BM]
 exact φ.mk ⟨rfl,rfl⟩
def Hi(q:eg):Value:=match q with
 |some x=>.tuple #[dT (some x),.bool true,.int .i64 0]
 |none=>.tuple #[.complex .f64 0 0,.bool false,.int .i64 0]
theorem aao{L:List eg}(h:∀x∈L,ki x)(j:Nat):ki (L.getD j none):=by
 rw[List.getD_eq_getElem?_getD];cases ay:L[j]?with
 |none=>trivial
 |some q=>exact h q (eS ay)
theorem Bo{w:World}{hM:J}{n:Nat}{L:List eg}(h:TabIs w hM n L)(j:Int):GA.C hM j w (φ λv w'=>v=(if 0<=j/\j<n then Hi (L.getD j.toNat none)else .tuple #[.complex .f64 0 0,.bool false,.int .i64 5])/\w'=w):=by
 apply GA.ok;unfold GA.main;refine κ.use (WQ h j) ?_;rintro _ _ ⟨rfl,rfl⟩
 try dsimp only[bH]
 by_cases χ:0<=j/\j<n
 ·rw[aY χ,aY χ,cond_neg (by rfl)];obtain⟨i,rfl⟩:=eR χ.1;refine κ.use (RY h (j:=i) (by omega)) ?_;rintro _ _ ⟨rfl,rfl⟩;rw[cP];have dq:=aao h.len.2.2.2 i;generalize L.getD i none=q at dq⊢;unfold dT
  try dsimp only[rH]
  rw[empty_eq dq];cases q with
  |none=>rw[cond_neg (by rfl)];exact φ.mk ⟨rfl,rfl⟩
  |some x=>rw[cond_pos (by rfl)];exact φ.mk ⟨rfl,rfl⟩
 ·rw[aN χ,aN χ,cond_pos (by rfl)];exact φ.mk ⟨rfl,rfl⟩
theorem zS{n:Nat}(h:1<=n/\n<=32)(w:World):zD.C (n:Int) w (φ λv w'=>∃hM,v=.tuple #[.pointer hM,.int .i64 0]/\θ w w'/\TabIs w' hM n (List.replicate (8*((n+7)/8)) none)):=by
 apply zD.ok;unfold zD.main;rw[iM (by omega),iM (by omega)];have hI:IntKind.i64.wrap (Int.tdiv (IntKind.i64.wrap ((IntKind.i64.wrap ((n:Int)+8))-1)) 8)=(((n+7)/8:Nat):Int):=by rw[b3 (x:=(n:Int)+8) (by omega) (by omega),b3 (x:=(n:Int)+8-1) (by omega) (by omega),show(n:Int)+8-1=((n+7:Nat):Int)by omega];exact WO (by omega)
 rw[hI];refine aW (by omega) (aW (by omega) (aW (by omega) ?_));rw[cP,eG];rintro ε δ rfl rfl ι υ rfl rfl;generalize hm:(n+7)/8=m;have em:madeCells #[Value.pointer none] m=(List.replicate m (Value.pointer none)).toArray:=E4 1 m (.pointer none) (by decide);rw[em];have ρ:=μ.alloc (w:=w) (List.replicate m (Value.pointer none)) vf 1 m (by simp);have ζ:=θ.alloc w (.cells (List.replicate m (Value.pointer none)).toArray vf);generalize w.alloc (.cells (List.replicate m (Value.pointer none)).toArray vf)=δ at ρ ζ⊢;have az:=μ.new (w:=δ) [.int .i64 (n:Int),.slice (some ⟨w.heap.size,0,none⟩) m m] tL;have τ:=θ.alloc δ (.cells #[.int .i64 (n:Int),.slice (some ⟨w.heap.size,0,none⟩) m m] tL);generalize δ.alloc (.cells #[.int .i64 (n:Int),.slice (some ⟨w.heap.size,0,none⟩) m m] tL)=υ at az τ⊢;refine φ.mk ⟨_,rfl,ζ.trans τ,δ.heap.size,some ⟨w.heap.size,0,none⟩,m,List.replicate m none,rfl,h,by simp,by simp[hm],λx I=>?_,?_,?_,λk q ay=>?_⟩
 ·rw[u0 I];trivial
 ·rw[sf];exact az.lower (da _)
 ·rw[sf,Ly];exact(ρ.ex τ).lower (da _)
 ·have KA:=List.getElem?_eq_some_iff.1 ay;obtain⟨hk,rfl⟩:=KA;rw[sf]at hk;refine .inl ⟨by simp,?_⟩;rw[List.drop_replicate,PU];congr 1;omega
theorem ajd{n:Int}(h:¬(1<=n/\n<=32))(w:World):zD.C n w (φ λv w'=>v=.tuple #[.pointer none,.int .i64 1]/\w'=w):=by apply zD.ok;unfold zD.main;refine bA (λ_=>φ.mk ⟨rfl,rfl⟩) λaF=>?_;have aF:=dh aF;rw[uo (by omega)];exact φ.mk ⟨rfl,rfl⟩
theorem XB(p:J)(n c:Nat)(xs:aU)(w:World)(π:a8 w p xs)(an:xs.length=n)(ar:n<=1000000000000)(h1:∀y∈xs,y.oneCell'=true):
  GF.C p n c w (φ λv w'=>∃bU aT,v=.slice bU n aT/\θ w w'/\μ w' w.heap.size vf 1 bU n aT xs):=by
 apply GF.ok;unfold GF.main;cases p with
 |none=>
  have:xs=[]:=π
  subst this
  have:n=0:=by simpa using an.symm
  subst this
  try dsimp only[JP,BM]
  exact φ.mk ⟨none,0,rfl,θ.refl w,μ.nil _ _ _ _⟩
 |some a=>
  try dsimp only[mB,jb]
  rintro ε δ rfl rfl;have aE:=μ.alloc (w:=w) [] vf 1 0 rfl;have I:=θ.alloc w (.cells #[] vf);refine kT aE (by have:=I.size;exact this) xs (a8.ex I π) (by omega) h1 rfl (by omega) (by omega) λbU aT w' jO hk=>?_;rw[mN]at jO⊢;rw[r9]at jO;exact φ.mk ⟨bU,aT,rfl,I.then hk (λi⟨x,e,o⟩=>by cases e;exact Ii o),jO⟩
theorem μ.base{w:World}{B:Nat}{e:TypeId}{sz:Nat}{p:J}{n c:Nat}{xs:aU}(h:μ w B e sz p n c xs)(ar:1<=n):∃b,p=some ⟨b,0,none⟩:=by
 obtain⟨_,h1,⟨_,η⟩|⟨b,_,_,η,_⟩⟩:=h
 ·omega
 ·exact⟨b,η⟩
theorem adP(l:List J):∀y∈l.map Value.pointer,y.oneCell'=true:=by intro y ag;obtain⟨x,_,rfl⟩:=gM.1 ag;rfl
theorem anb(p:J)(n c:Nat)(l:List eg)(w:World)(π:a8 w p (l.map dT))(ar:l.length=n)(an:n<=1000000)(aE:∀q∈l,ki q):
  u9.C p n c (.func (.func 160) #[] #[]) w (φ λv w'=>v=.bool (l.any Option.isSome)/\w'=w):=by
 apply u9.ok;unfold u9.main;have h:tD.C p n c w (φ λv w'=>(∃i:Int,v=.int .i64 i/\decide (i>=0)=l.any Option.isSome)/\w'=w):=by
  apply tD.ok;unfold tD.main tD.bd;refine⟨λcj cb cu t7 t8 w'=>p=cj/\n=cb/\c=cu/\(n:Int)=t7/\0<=t8/\t8<=n/\w=w'/\(l.take t8.toNat).any Option.isSome=false,λ_ _ _ _ t8 _=>(n-t8).toNat,⟨rfl,rfl,rfl,rfl,by omega,by omega,rfl,rfl⟩,?_⟩;rintro _ _ _ _ t8 _ ⟨rfl,rfl,rfl,rfl,aF,h1,rfl,dM⟩;unfold tD.ε;obtain⟨j,rfl⟩:=eR aF;rw[cP]at dM;refine bA (λh=>?_) λh=>?_
  ·have bQ:=cd h;have χ:j<l.length:=by omega
   obtain⟨a,rfl,r⟩:=Fs π χ;refine bO (bC aF) (bO (bC bQ) ?_)
   try dsimp only[bj]
   rw[cP,eG];refine⟨_,_,r,?_⟩;have hk:=aE _ (hN χ);refine κ.use (S:=λv w'=>v=.bool l[j].isSome/\w'=w) ?_ ?_
   ·apply IX.ok;unfold IX.main;rw[empty_eq hk];exact φ.mk ⟨rfl,rfl⟩
   rintro _ _ ⟨rfl,rfl⟩
   try dsimp only[dH]
   refine bA (λψ=>φ.mk ⟨⟨_,rfl,?_⟩,rfl⟩) λψ=>?_
   ·rw[any_true _ l χ ψ,bC aF]
   ·rw[b3 (by omega) (by omega)];exact⟨⟨rfl,rfl,rfl,rfl,by omega,by omega,rfl,by show(l.take (j+1)).any _=_;rw[YF _ l χ dM];exact ψ⟩,by((try dsimp only);omega)⟩
  ·have bQ:=dh h;rw[hr (by omega)]at dM;exact φ.mk ⟨⟨_,rfl,by rw[dM];rfl⟩,rfl⟩
 refine κ.use h ?_;rintro _ _ ⟨⟨i,rfl,o⟩,rfl⟩
 try dsimp only[bH]
 exact φ.mk ⟨by rw[o],rfl⟩
theorem akK{L:List eg}{j k:Nat}(z:eg):((L.set j z).drop (8*k)).take 8=if k=j/8 then((L.drop (8*k)).take 8).set (j%8) z else(L.drop (8*k)).take 8:=by
 rw[List.drop_set];by_cases h1:j<8*k
 ·rw[aY h1,aN (by omega)]
 ·rw[aN h1,List.take_set];by_cases η:k=j/8
  ·rw[aY η,show j-8*k=j%8 by omega]
  ·rw[aN η,List.set_eq_of_length_le (by rw[gY];omega)]
theorem aqI{l:List eg}(dr:l.length=8)(h:l.any Option.isSome=false):l=List.replicate 8 none:=by
 apply List.ext_getElem
 ·simp[dr]
 ·intro i h1 η;rw[List.getElem_replicate]
  have:=Ik.1 h l[i] (hN h1)
  cases ay:l[i]with
  |none=>rfl
  |some x=>rw[ay]at this;simp at this
theorem aew{w0 w:World}{b n:Nat}{L:List eg}{p:J}{c:Nat}{qs:List J}(h:zW w0 b n L p c qs)(I:θ w0 w){j:Nat}(χ:j<n){z:eg}(aI:ki z){t7:Nat}
  (γ:μ w w0.heap.size yc 8 (some ⟨t7,0,none⟩) 1 1 (((L.drop (8*(j/8))).take 8).map dT)):
  mm.bP (some ⟨b,0,none⟩) (j:Int) (eI z) (eQ z) t7 ((j/8:Nat):Int) w (φ λv w'=>∃hM,v=.pointer hM/\θ w0 w'/\TabIs w' hM n (L.set j z)):=by
 have ar:=h.size;have hm:=h.many;have an:=h.len;have hk:j/8<qs.length:=by omega
 have dr:((L.drop (8*(j/8))).take 8).length=8:=by rw[gY,kI];omega
 unfold mm.bP;rw[ahs];refine aW (by omega) (aW (by omega) ?_);rw[cP,eG,dF];refine γ.dj (j:=j%8) (v:=dT z) (by omega) rfl λδ aZ ρ=>?_;rw[<-q6]at ρ;have ny:w0.heap.size<=t7:=(γ.ge rfl).1;have am2:θ w0 δ:=I.then aZ λi o=>o▸ny;have cc:∀i,i=t7->w0.heap.size<=i:=λi o=>o▸ny;have h1:∀W,θ w0 W->zW W b n L p c qs:=λW x=>h.ex x
 try dsimp only[bj]
 have fM:=am2.trans (θ.drew δ);have en:=h1 δ.drew fM;simp only[dF];refine⟨n,en.cell.at (j:=0) rfl,p,_,c,en.cell.at (j:=1) rfl,?_⟩;refine κ.use (XB p _ c (qs.map Value.pointer) δ.drew en.row.cells (by simp) (by omega) (adP _)) ?_;rintro _ υ ⟨aX,c2,rfl,τ,az⟩
 try dsimp only[er]
 have hS:=fM.trans τ;refine⟨(h1 υ hS).cell.at (j:=0) rfl,?_⟩;rintro aH aa rfl rfl;have bu:=μ.new (w:=υ) [.int .i64 (n:Int),.slice aX qs.length c2] tL;have ab:=θ.alloc υ (.cells #[.int .i64 (n:Int),.slice aX qs.length c2] tL);generalize jc:υ.heap.size=aH at bu⊢;generalize υ.alloc (.cells #[.int .i64 (n:Int),.slice aX qs.length c2] tL)=aa at bu ab⊢;have ju:=hS.trans ab;refine⟨aX,_,c2,bu.at (j:=1) rfl,aW (by omega) (aW (by omega) ?_)⟩;have q0:=az.ex ab;obtain⟨ι,rfl⟩:=μ.base q0 (by omega)
 try dsimp only[bj]
 rw[cP,eG,dF];refine q0.dj (j:=j/8) (v:=.pointer (some ⟨t7,0,none⟩)) (by omega) rfl λax cp cm=>?_;rw[<-q6]at cm;have ee:=q0.typed rfl;have axo:δ.drew.heap.size<=ι:=(az.ge rfl).1;have GS:Kp υ ax λi=>i=ι:=(ab.aC _).gr cp;have ns:θ w0 ax:=hS.then GS λi o=>by have:=fM.size;omega
 have th:μ ax aH tL 2 (some ⟨aH,0,none⟩) 1 1 [.int .i64 (n:Int),.slice (some ⟨ι,0,none⟩) qs.length c2]:=bu.cI cp vf (λi o=>o▸ee.1) (by decide);have r1:μ ax w0.heap.size yc 8 (some ⟨t7,0,none⟩) 1 1 ((((L.drop (8*(j/8))).take 8).set (j%8) z).map dT):=(((ρ.ex (θ.drew δ)).ex τ).ex ab).cI cp vf (λi o=>o▸ee.1) (by decide);have abN:(((L.drop (8*(j/8))).take 8).set (j%8) z).length=8:=by rw[jB,dr]
 have aoF:∀x∈L.set j z,ki x:=λx I=>by
  rcases pH I with I|rfl
  ·exact h.ok x I
  ·exact aI
 have aoD:∀x∈((L.drop (8*(j/8))).take 8).set (j%8) z,ki x:=λx I=>by
  rcases pH I with I|rfl
  ·exact h.ok x (Im (wD I))
  ·exact aI
 rw[IL];refine κ.use (anb _ 8 8 _ ax r1.cells abN (by omega) aoD) ?_;rintro _ aG ⟨rfl,ig⟩;obtain rfl:=ig.symm
 try dsimp only[dH]
 have rO:∀W,θ w0 W->∀{gW:Nat}{qs':List J},qs'.length=qs.length->μ W gW tL 2 (some ⟨gW,0,none⟩) 1 1 [.int .i64 (n:Int),.slice (some ⟨ι,0,none⟩) qs.length c2]->μ W 0 vf 1 (some ⟨ι,0,none⟩) qs.length c2 (qs'.map Value.pointer)->
   (∀(k:Nat)q,qs'[k]?=some q->(k=j/8/\Jo W q (((L.drop (8*(j/8))).take 8).set (j%8) z))\/(k≠j/8/\qs[k]?=some q))->TabIs W (some ⟨gW,0,none⟩) n (L.set j z):=by
  intro W jX gW qs' qV ho arl lK;refine⟨gW,_,c2,qs',rfl,ar,by rw[jB,qV];exact an,by rw[qV];exact hm,aoF,by rw[qV];exact ho.lower (da _),by rw[qV];exact arl,λk q ay=>?_⟩;rw[akK];rcases lK k q ay with⟨rfl,hp⟩|⟨cc,hp⟩
  ·rw[aY rfl];exact hp
  ·rw[aN cc];exact((h.ex jX).bm k q hp)
 refine bA (λn4=>?_) λaya=>?_
 ·have n4:(((L.drop (8*(j/8))).take 8).set (j%8) z).any Option.isSome=false:=by simpa using n4
  refine⟨some ⟨ι,0,none⟩,_,c2,th.at (j:=1) rfl,aW (by omega) (aW (by omega) ?_)⟩
  try dsimp only[bj]
  rw[dF];refine cm.dj (j:=j/8) (v:=.pointer none) (by omega) rfl λba dP bS=>?_;rw[<-q6,List.set_set]at bS;have XW:θ w0 ba:=ns.then dP λi o=>by rw[o];have:=fM.size;omega
  refine φ.mk ⟨_,rfl,XW,rO ba XW (qs':=qs.set (j/8) none) (by simp) (th.cI dP vf (λi o=>o▸(cm.typed rfl).1) (by decide)) (bS.lower (da _)) λk q ay=>?_⟩;rw[List.getElem?_set]at ay;split at ay
  ·rename_i e;cases ay;exact .inl ⟨e.symm,.inl ⟨rfl,aqI abN n4⟩⟩
  ·rename_i e;exact .inr ⟨λbz=>e bz.symm,ay⟩
 ·refine φ.mk ⟨_,rfl,ns,rO ax ns (qs':=qs.set (j/8) (some ⟨t7,0,none⟩)) (by simp) th (cm.lower (da _)) λk q ay=>?_⟩;rw[List.getElem?_set]at ay;split at ay
  ·rename_i e;cases ay;exact .inl ⟨e.symm,.inr ⟨t7,rfl,r1.lower (da _)⟩⟩
  ·rename_i e;exact .inr ⟨λbz=>e bz.symm,ay⟩
def Jb:aU:=List.replicate 8 (.complex .f64 0 0)
def Vh(j:Nat):aU:=List.replicate j (dT none)++List.replicate (8-j) (.complex .f64 0 0)
theorem aqq{j:Nat}(h:j<8):(Vh j).set j (dT none)=Vh (j+1):=by
 match j,h with
 |0,_=>rfl
 |1,_=>rfl
 |2,_=>rfl
 |3,_=>rfl
 |4,_=>rfl
 |5,_=>rfl
 |6,_=>rfl
 |7,_=>rfl
 |n+8,h=>exact absurd h (by omega)
theorem awJ:∀y∈Jb,y.oneCell'=true:=λy ag=>by rw[u0 ag];rfl
theorem aex{w:World}{hM:J}{n:Nat}{L:List eg}(h:TabIs w hM n L){j:Nat}(χ:j<n){z:eg}(aI:ki z):
  mm.C hM (j:Int) (eI z) (eQ z) w (φ λv w'=>∃nf,v=.pointer nf/\θ w w'/\TabIs w' nf n (L.set j z)):=by
 apply mm.ok;unfold mm.main;refine κ.use (RY h χ) ?_;rintro _ δ ⟨rfl,aM⟩;obtain rfl:=aM.symm;have lZ:=h.len;have ay:=aao lZ.2.2.2 j;have abf:j<L.length:=by omega
 generalize rS:L.getD j none=q at ay⊢;obtain⟨b,p,c,qs,rfl,h⟩:=h;have ar:=h.size;have hm:=h.many;have an:=h.len;unfold dT
 try dsimp only[bj,rH]
 rw[VS ay aI];refine bA (λhe=>?_) λhe=>?_
 ·have he:=cd he;subst he;have yt:=θ.drew w;have h1:=h.ex yt;simp only[dF];refine⟨n,h1.cell.at (j:=0) rfl,p,_,c,h1.cell.at (j:=1) rfl,?_⟩;refine κ.use (XB p _ c (qs.map Value.pointer) w.drew h1.row.cells (by simp) (by omega) (adP _)) ?_;rintro _ υ ⟨aX,c2,rfl,τ,az⟩
  try dsimp only[er]
  refine⟨(h1.ex τ).cell.at (j:=0) rfl,?_⟩;rintro aH aa rfl rfl;have bu:=μ.new (w:=υ) [.int .i64 (n:Int),.slice aX qs.length c2] tL;have ab:=θ.alloc υ (.cells #[.int .i64 (n:Int),.slice aX qs.length c2] tL);generalize jc:υ.heap.size=aH at bu⊢;generalize υ.alloc (.cells #[.int .i64 (n:Int),.slice aX qs.length c2] tL)=aa at bu ab⊢;have hS:=yt.trans (τ.trans ab);have lM:L.set j q=L:=by rw[<-rS,List.getD_eq_getElem?_getD,List.getElem?_eq_getElem abf];exact List.set_getElem_self abf
  rw[lM];exact φ.mk ⟨_,rfl,hS,aH,aX,c2,qs,rfl,ar,an,hm,h.ok,bu.lower (da _),(az.ex ab).lower (da _),(h.ex hS).bm⟩
 ·rintro ι ba rfl rfl;have ρ:=μ.new (w:=w) Jb yc;have ζ:=θ.alloc w (.cells Jb.toArray yc);have ω:w.heap.size<=w.heap.size:=eF _;generalize ee:w.heap.size=ι at ρ ω⊢;have ux:(w.alloc (.cells #[(Value.complex .f64 0 0),(Value.complex .f64 0 0),(Value.complex .f64 0 0),(Value.complex .f64 0 0),(Value.complex .f64 0 0),(Value.complex .f64 0 0),(Value.complex .f64 0 0),(Value.complex .f64 0 0)] yc))=w.alloc (.cells Jb.toArray yc):=rfl;rw[ux];generalize w.alloc (.cells Jb.toArray yc)=ba at ρ ζ⊢;refine ρ.put (cs:=Jb) rfl awJ λbk hK eM=>?_;have am4:θ w bk:=ζ.then hK λi o=>by omega
  unfold mm.bd;refine⟨λt0 t1 re rb t7 t29 w'=>some ⟨b,0,none⟩=t0/\(j:Int)=t1/\eI z=re/\eQ z=rb/\ι=t7/\0<=t29/\t29<=8/\θ w w'/\μ w' w.heap.size yc 8 (some ⟨ι,0,none⟩) 1 1 (Vh t29.toNat),λ_ _ _ _ _ t29 _=>(8-t29).toNat,⟨rfl,rfl,rfl,rfl,rfl,by omega,by omega,am4,eM.lower (by omega)⟩,?_⟩;rintro _ _ _ _ _ t29 w' ⟨rfl,rfl,rfl,rfl,rfl,aF,h1,I,γ⟩;unfold mm.ε;obtain⟨i,rfl⟩:=eR aF;rw[cP]at γ;refine bA (λo=>?_) λo=>?_
  ·have o:=cd o;refine aW (by omega) (aW (by omega) ?_);rw[cP,eG,dF];refine γ.dj (j:=i) (v:=dT none) (by omega) rfl λb9 fN ff=>?_;rw[aqq (by omega)]at ff;rw[b3 (x:=(i:Int)+1) (by omega) (by omega)];exact⟨⟨rfl,rfl,rfl,rfl,rfl,by omega,by omega,I.then fN λi o=>by omega,ff⟩,by((try dsimp only);omega)⟩
  ·have o:=dh o;obtain rfl:i=8:=by omega
   unfold mm.aZ
   try dsimp only[bj]
   simp only[dF];have eX:=h.ex I;rw[WO (by omega)];refine⟨p,_,c,eX.cell.at (j:=1) rfl,aW (by omega) (aW (by omega) ?_)⟩;have hk:j/8<qs.length:=by omega
   obtain⟨a,aP,r⟩:=eX.row.cells.many (j:=j/8) (v:=.pointer qs[j/8]) (by rw[List.getElem?_map,List.getElem?_eq_getElem hk];rfl);refine gK aP ⟨_,by rw[cP,eG];exact r,?_⟩;rcases eX.bm (j/8) qs[j/8] (List.getElem?_eq_getElem hk)with⟨KB,σ⟩|⟨dC,KB,cz⟩
   ·rw[KB,cond_neg (by rfl)];exact aew h I χ aI (by rw[σ];exact γ)
   ·rw[KB,cond_pos (by rfl)];have dr:((L.drop (8*(j/8))).take 8).length=8:=by rw[gY,kI];omega
    refine gK rfl ⟨(((L.drop (8*(j/8))).take 8).map dT).toArray,by simp only[fp,jP];exact dr,cz.cells,aW (by simp only[fp,jP];exact dr) ?_⟩;refine γ.put (cs:=((L.drop (8*(j/8))).take 8).map dT) (by rw[jP,dr]) (adK _) λca hU jm=>?_;exact aew h (I.then hU λi o=>by omega) χ aI jm
theorem aeG{x:Nat×Nat}(h:gS x):ki (some x):=h
theorem No{x:Nat×Nat}(h:gS x):uh (eI (some x)) 0=some (eI (some x))/\uh (eQ (some x)) 0=some (eQ (some x)):=
 ⟨YB ⟨x.1,h.1⟩,YB ⟨x.2,by have:=h.2;omega⟩⟩
 where
 YB:∀a:_root_.Fin 24,uh (j7 a.val) 0=some (j7 a.val):=by decide+kernel
theorem Jp{w:World}{hM:J}{n:Nat}{L:List eg}(h:TabIs w hM n L){j:Nat}(χ:j<n){x:Nat×Nat}(I:gS x):
  GB.C hM (j:Int) (eI (some x)) (eQ (some x)) w (φ λv w'=>∃nf,v=.tuple #[.pointer nf,.int .i64 0]/\θ w w'/\TabIs w' nf n (L.set j (some x))):=by
 apply GB.ok;unfold GB.main;refine κ.use (WQ h j) ?_;rintro _ _ ⟨rfl,rfl⟩;rw[aY (by omega)]
 try dsimp only[bH]
 rw[cond_neg (by rfl)];refine κ.use (zX (some x) (aeG I) _) ?_;rintro _ _ ⟨rfl,rfl⟩
 try dsimp only[dH]
 rw[cond_neg (by rfl),(No I).1,(No I).2]
 try dsimp only[bj]
 refine κ.use (aex h χ (z:=some x) (aeG I)) ?_;rintro _ δ ⟨nf,rfl,ζ,h1⟩
 try dsimp only[mX]
 exact φ.mk ⟨nf,rfl,ζ,h1⟩
theorem aiN{w:World}{hM:J}{n:Nat}{L:List eg}(h:TabIs w hM n L){j:Nat}(χ:j<n):
  Gz.C hM (j:Int) w (φ λv w'=>∃nf,v=.tuple #[.pointer nf,.int .i64 0]/\θ w w'/\TabIs w' nf n (L.set j none)):=by
 apply Gz.ok;unfold Gz.main;refine κ.use (WQ h j) ?_;rintro _ _ ⟨rfl,rfl⟩;rw[aY (by omega)]
 try dsimp only[bH]
 rw[cond_neg (by rfl)];refine κ.use (aex h χ (z:=none) trivial) ?_;rintro _ δ ⟨nf,rfl,ζ,h1⟩
 try dsimp only[mX]
 exact φ.mk ⟨nf,rfl,ζ,h1⟩
theorem at1{L:List eg}{j:Nat}(h:j<L.length):L.take (j+1)=L.take j++[L.getD j none]:=by rw[lq h,List.getD_eq_getElem?_getD,List.getElem?_eq_getElem h];rfl
theorem ain{w:World}{hM:J}{n:Nat}{L:List eg}(h:TabIs w hM n L):ow.C hM w (φ λv w'=>∃q d,v=.slice q n d/\θ w w'/\μ w' w.heap.size eA 1 q n d ((L.take n).map dT)):=by
 have lZ:=h.len;apply ow.ok;unfold ow.main;refine κ.use (M0 h) ?_;rintro _ δ ⟨rfl,aM⟩;obtain rfl:=aM.symm
 try dsimp only[bH]
 unfold ow.bd;refine⟨λt0 dW dL ec t6 t7 w'=>hM=t0/\(n:Int)=t6/\0<=t7/\t7<=n/\t7=dL/\θ w w'/\μ w' w.heap.size eA 1 dW dL ec ((L.take t7.toNat).map dT),λ_ _ _ _ _ t7 _=>(n-t7).toNat,⟨rfl,rfl,by omega,by omega,rfl,θ.refl _,μ.nil _ _ _ _⟩,?_⟩;rintro _ dW dL ec _ t7 w' ⟨rfl,rfl,aF,h1,au,I,γ⟩;unfold ow.ε;obtain⟨i,rfl⟩:=eR aF;rw[cP]at γ;obtain rfl:i=dL:=by omega
 refine bA (λo=>?_) λo=>?_
 ·have o:=cd o;refine κ.use (RY (h.ex I) (j:=i) (by omega)) ?_;rintro _ aG ⟨rfl,ig⟩;obtain rfl:=ig.symm;unfold dT
  try dsimp only[rH]
  rintro ε δ rfl rfl;have ζ:=θ.alloc w' (.cells #[.complex .f64 (eI (L.getD i none)) (eQ (L.getD i none))] eA);have c1:a8 (w'.alloc (.cells #[.complex .f64 (eI (L.getD i none)) (eQ (L.getD i none))] eA)) (some ⟨w'.heap.size,0,none⟩) [dT (L.getD i none)]:=a8.alloc _ eA;generalize w'.alloc (.cells #[.complex .f64 (eI (L.getD i none)) (eQ (L.getD i none))] eA)=δ at ζ c1⊢;refine kT (γ.ex ζ) (I.trans ζ).size [dT (L.getD i none)] c1 rfl (λy ag=>by simp only[lp]at ag;subst ag;rfl) rfl (by omega) (by omega) λej fU b9 ff fN=>?_;rw[b3 (x:=(i:Int)+1) (by omega) (by omega)];refine⟨⟨rfl,rfl,by omega,by omega,rfl,(I.trans ζ).then fN λb⟨y,ag,ω⟩=>ω▸(γ.ge ag).1,?_⟩,by((try dsimp only);omega)⟩;show μ b9 _ _ _ _ _ _ ((L.take (i+1)).map dT);rw[at1 (by omega),qt];exact ff
 ·have o:=dh o;obtain rfl:i=n:=by omega
  exact φ.mk ⟨dW,ec,rfl,I,γ⟩
theorem aim(w:World):ow.C none w (φ λv w'=>v=.slice none 0 0/\w'=w):=by
 apply ow.ok;unfold ow.main;refine κ.use (ajB w) ?_;rintro _ δ ⟨rfl,aM⟩;obtain rfl:=aM.symm
 try dsimp only[bH]
 unfold ow.bd;refine⟨λt0 dW dL ec t6 t7 w'=>dW=none/\dL=0/\ec=0/\t6=0/\t7=0/\w=w',λ_ _ _ _ _ _ _=>0,⟨rfl,rfl,rfl,rfl,rfl,rfl⟩,?_⟩;rintro _ _ _ _ _ _ _ ⟨rfl,rfl,rfl,rfl,rfl,rfl⟩;unfold ow.ε;rw[iM (by omega)];exact φ.mk ⟨rfl,rfl⟩
theorem μ.putAt{w:World}{B:Nat}{e:TypeId}{sz b n c:Nat}{xs:aU}(aE:μ w B e sz (some ⟨b,0,none⟩) n c xs)(γ:Nat)(ys:aU)(an:γ+ys.length<=n*sz)(h1:∀y∈ys,y.oneCell'=true){N:ai}
  (K:∀υ,Kp w υ (λi=>i=b)->μ υ B e sz (some ⟨b,0,none⟩) n c (xs.take γ++ys++xs.drop (γ+ys.length))->N υ):hG w ((⟨b,0,none⟩:Addr).add γ) ys/\∀υ,υ=w.setCells ((⟨b,0,none⟩:Addr).add γ).block ((⟨b,0,none⟩:Addr).add γ).off ys->N υ:=by
 obtain⟨aZ,bP,b7⟩:=aE.writes γ ys an h1;refine⟨aZ,λυ hw=>?_⟩;have oU:k1 w (some ⟨b,0,none⟩) γ ys=υ:=by rw[hw,dF];show w.setCells b (0+γ) ys=_;rw[mN]
 rw[oU]at bP b7;exact K υ (b7.mono λi _⟨x,I,o⟩=>by cases I;exact o.symm) bP
def gd(R:bW)(v:Int):Option fL:=if 0<=v/\v<8 then(R[v.toNat]?).filter λe=>decide (e.1≠0)else none
def ly(R:bW):Option Nat:=R.findIdx? λe=>decide (e.1=0)
def jD(R:bW)(v b:Nat)(q:eg):bW:=match R[v]?with
 |some e=>R.set v (e.1,e.2.1,e.2.2.set b q)
 |none=>R
theorem Ah{R:bW}{v:Int}{e:fL}(h:gd R v=some e):0<=v/\v<8/\R[v.toNat]?=some e/\e.1≠0:=by
 unfold gd at h;split at h
 ·rename_i aL;cases σ:R[v.toNat]?with
  |none=>rw[σ]at h;simp at h
  |some x=>
   rw[σ,LL]at h;split at h
   ·cases h;rename_i hk;exact⟨aL.1,aL.2,rfl,cd hk⟩
   ·cases h
 ·cases h
theorem alR{R:bW}{k:Nat}{e:fL}(hk:k<8)(he:R[k]?=some e)(h:e.1≠0):gd R (k:Int)=some e:=by unfold gd;rw[aY (by omega),cP,he,LL,aY (bC h)]
theorem P9{R:bW}(dr:R.length=8){i:Nat}(h:ly R=some i):i<8/\∃e,R[i]?=some e/\e.1=0:=by unfold ly at h;obtain⟨bQ,hp,_⟩:=List.findIdx?_eq_some_iff_getElem.1 h;exact⟨by omega,R[i],List.getElem?_eq_getElem bQ,by simpa using hp⟩
def vC(w:World)(tp:J)(e:fL):Prop:=(tp=none/\e.2.2=[])\/∃n L,TabIs w tp n L/\e.2.2=L.take n/\e.2.1=(n:Int)
structure ru(w:World)(B b4:Nat)(R:bW)(fR:List J):Prop where
 γ:μ w B Bb 24 (some ⟨b4,0,none⟩) 1 1 (kinds R++fR.map Value.pointer)
 len:R.length=8
 j1:fR.length=8
 tb:∀(k:Nat)(e:fL)(tp:J),R[k]?=some e->fR[k]?=some tp->vC w tp e
def kn(w:World)(B b4:Nat)(R:bW):Prop:=∃fR,ru w B b4 R fR
theorem vC.aC{w w':World}{tp:J}{e:fL}(h:vC w tp e){S:a1}(k:Kp w w' S)(ψ:∀i,S i->¬sE w i):vC w' tp e:=by
 rcases h with h|⟨n,L,h1,η⟩
 ·exact .inl h
 ·exact .inr ⟨n,L,h1.aC k ψ,η⟩
theorem vC.ex{w w':World}{tp:J}{e:fL}(h:vC w tp e)(x:θ w w'):vC w' tp e:=h.aC x λ_ h=>h.elim
theorem ru.aC{w w':World}{B b4:Nat}{R:bW}{fR:List J}(h:ru w B b4 R fR){S:a1}(k:Kp w w' S)(hp:¬S b4)(ψ:∀i,S i->¬sE w i):ru w' B b4 R fR:=
 ⟨h.γ.aC k λx I o=>by cases I;exact hp o,h.len,h.j1,λi e tp he aO=>(h.tb i e tp he aO).aC k ψ⟩
theorem ru.ex{w w':World}{B b4:Nat}{R:bW}{fR:List J}(h:ru w B b4 R fR)(x:θ w w'):ru w' B b4 R fR:=h.aC x (λh=>h) λ_ h=>h.elim
theorem kn.aC{w w':World}{B b4:Nat}{R:bW}(h:kn w B b4 R){S:a1}(k:Kp w w' S)(hp:¬S b4)(ψ:∀i,S i->¬sE w i):kn w' B b4 R:=by obtain⟨t,h⟩:=h;exact⟨t,h.aC k hp ψ⟩
theorem kn.ex{w w':World}{B b4:Nat}{R:bW}(h:kn w B b4 R)(x:θ w w'):kn w' B b4 R:=h.aC x (λh=>h) λ_ h=>h.elim
theorem kn.typed{w:World}{B b4:Nat}{R:bW}(h:kn w B b4 R):Typed w Bb b4/\B<=b4/\b4<w.heap.size:=by obtain⟨t,h⟩:=h;exact h.γ.typed rfl
theorem Wg{w:World}{i:Nat}(h:Typed w Bb i):¬sE w i:=by
 rintro(t|t|t)
 ·exact h.ne t (by decide) rfl
 ·exact h.ne t (by decide) rfl
 ·exact h.ne t (by decide) rfl
def nR(w:World)(B b4:Nat)(R:bW)(w':World):Prop:=kn w' B b4 R/\Kp w w' λi=>i=b4
theorem o0{R:bW}(h:R.length=8):(kinds R).length=16:=by rw[AF,h]
theorem ru.jL{w:World}{B b4:Nat}{R:bW}{fR:List J}(h:ru w B b4 R fR){k:Nat}{e:fL}(he:R[k]?=some e):(kinds R++fR.map Value.pointer)[k*2]?=some (.int .i64 e.1)/\(kinds R++fR.map Value.pointer)[k*2+1]?=some (.int .i64 e.2.1)/\((kinds R++fR.map Value.pointer).drop (k*2)).take 2=two e.1 e.2.1:=by
 have hk:k<8:=by have:=(List.getElem?_eq_some_iff.1 he).1;rw[h.len]at this;exact this
 obtain⟨t,aO⟩:=U3 R k e he;have Tf:=o0 h.len;have ae:(kinds R++fR.map Value.pointer).drop (k*2)=two e.1 e.2.1++(t++fR.map Value.pointer):=by rw[CB (by omega),aO,mc]
 refine⟨?_,?_,by rw[ae];rfl⟩
 ·have:=gN (λl=>l[0]?) ae
  rw[List.getElem?_drop]at this;exact this
 ·have:=gN (λl=>l[1]?) ae
  rw[List.getElem?_drop]at this;exact this
theorem ru.IW{w:World}{B b4:Nat}{R:bW}{fR:List J}(h:ru w B b4 R fR){k:Nat}{tp:J}(aO:fR[k]?=some tp):(kinds R++fR.map Value.pointer)[16+k]?=some (.pointer tp):=by rw[List.getElem?_append_right (by rw[o0 h.len];omega),o0 h.len,Iw,List.getElem?_map,aO];rfl
theorem ru.IY{w:World}{B b4:Nat}{R:bW}{fR:List J}(h:ru w B b4 R fR){k:Nat}(hk:k<8):∃e tp,R[k]?=some e/\fR[k]?=some tp:=
 ⟨R[k]'(by rw[h.len];exact hk),fR[k]'(by rw[h.j1];exact hk),List.getElem?_eq_getElem _,List.getElem?_eq_getElem _⟩
theorem LX{R:bW}(dr:R.length=8)(qs:aU)(k:Nat)(v:Value):(kinds R++qs).set (16+k) v=kinds R++qs.set k v:=by rw[CC _ _ (by rw[o0 dr];omega),o0 dr,Iw]
theorem ru.kb{w:World}{B b4:Nat}{R:bW}{fR:List J}(h:ru w B b4 R fR){i:Nat}(o:i<8)(e:fL){tp:J}(aO:vC w tp e){N:ai}(K:∀w',nR w B b4 (R.set i e) w'->N w'):
  hG w ((⟨b4,0,none⟩:Addr).add (i*2)) [.int .i64 e.1,.int .i64 e.2.1]/\∀υ,υ=w.setCells ((⟨b4,0,none⟩:Addr).add (i*2)).block ((⟨b4,0,none⟩:Addr).add (i*2)).off [.int .i64 e.1,.int .i64 e.2.1]->
   ((υ.cell? (⟨b4,16+i,none⟩:Addr)).isSome=true/\υ.frozen? (⟨b4,16+i,none⟩:Addr)=false/\∀aa,aa=υ.setCell (⟨b4,16+i,none⟩:Addr) (.pointer tp)->N aa):=by
 refine μ.putAt h.γ (i*2) (two e.1 e.2.1) (by show i*2+2<=1*24;omega) nm λυ bP az=>?_;rw[Wy h.len o e.1 e.2.1 e.2.2]at az;refine az.dj (j:=16+i) (by omega) rfl λaa b7 bu=>?_;rw[LX (by rw[jB];exact h.len),<-q6]at bu;have Rq:=bP.gr b7;have y3:∀j,j=b4->¬sE w j:=λj χ=>Wg (χ▸(h.γ.typed rfl).1);refine K aa ⟨⟨fR.set i tp,bu,by rw[jB];exact h.len,by rw[jB];exact h.j1,λk c6 WR dO kE=>?_⟩,Rq⟩;rw[List.getElem?_set]at dO kE;by_cases qd:i=k
 ·rw[aY qd,aY (by rw[h.len];omega)]at dO;rw[aY qd,aY (by rw[h.j1];omega)]at kE;cases dO;cases kE;exact aO.aC Rq y3
 ·rw[aN qd]at dO kE;exact(h.tb k c6 WR dO kE).aC Rq y3
theorem ajc(w:World):FR.C w (φ λv w'=>v=.pointer (some ⟨w.heap.size,0,none⟩)/\θ w w'/\kn w' w.heap.size w.heap.size (cw [])):=by
 apply FR.ok;unfold FR.main;rintro ε δ rfl rfl;have ρ:=μ.new (w:=w) (kinds (cw [])++(List.replicate 8 (none:J)).map Value.pointer) Bb;refine φ.mk ⟨rfl,θ.alloc w _,List.replicate 8 none,ρ,rfl,rfl,λk e tp he aO=>.inl ⟨?_,?_⟩⟩
 ·exact u0 (eS aO)
 ·have:e=GM:=u0 (n:=8) (eS he)
  rw[this]
def iu(R:bW)(v:Int):Int×Int×Int:=match gd R v with
 |some e=>(e.1,e.2.1,0)
 |none=>(0,0,4)
theorem Bm{w:World}{B b4:Nat}{R:bW}(h:kn w B b4 R)(v:Int):FU.C (some ⟨b4,0,none⟩) v w (φ λu w'=>u=.tuple #[.agg (two (iu R v).1 (iu R v).2.1).toArray,.int .i64 (iu R v).2.2]/\θ w w'):=by
 obtain⟨fR,h⟩:=h;apply FU.ok;unfold FU.main;rintro ε δ rfl rfl;have ρ:=μ.new (w:=w) (two 0 0) jq;have ζ:=θ.alloc w (.cells (two 0 0).toArray jq);have aM:w.alloc (.cells #[.int .i64 0,.int .i64 0] jq)=w.alloc (.cells (two 0 0).toArray jq):=rfl;rw[aM];generalize w.alloc (.cells (two 0 0).toArray jq)=δ at ρ ζ⊢;have h1:=h.ex ζ;generalize ω:w.heap.size=b at ρ;have ω:w.heap.size<=b:=by omega
 have fin:∀(a c e:Int),(two (iu R v).1 (iu R v).2.1,(iu R v).2.2)=(two a c,e)->(hG δ (⟨b,0,none⟩:Addr) (two a c)/\∀aa,aa=δ.setCells (⟨b,0,none⟩:Addr).block (⟨b,0,none⟩:Addr).off (two a c)->
  (∃(bK:ah),bK.size=2/\aw aa (⟨b,0,none⟩:Addr) bK.toList/\(φ λu w'=>u=.tuple #[.agg (two (iu R v).1 (iu R v).2.1).toArray,.int .i64 (iu R v).2.2]/\θ w w') (.returned (Value.tuple #[(Value.agg bK),.int .i64 e])) aa)):=by
  intro a c e he;refine ρ.put (cs:=two a c) rfl nm λυ bP az=>⟨(two a c).toArray,rfl,az.cells,φ.mk ⟨?_,ζ.then bP λi o=>by omega⟩⟩;have yT:=gN Prod.fst he;have qc:=gN Prod.snd he;dsimp only at yT qc;rw[yT,qc]
 have bad:gd R v=none->(two (iu R v).1 (iu R v).2.1,(iu R v).2.2)=(two 0 0,4):=λe=>by unfold iu;rw[e]
 rw[cond_neg (by rfl)];refine bA (λaF=>fin 0 0 4 (bad (by unfold gd;rw[aN (by have:=cd aF;omega)]))) λaF=>?_;refine bA (λdr=>fin 0 0 4 (bad (by unfold gd;rw[aN (by have:=cd dr;omega)]))) λdr=>?_;have aF:=dh aF;have dr:=dh dr;obtain⟨k,rfl⟩:=eR (show 0<=v by omega);obtain⟨e,tp,he,aO⟩:=h1.IY (k:=k) (by omega);obtain⟨c1,c2,bJ⟩:=h1.jL he
 try dsimp only[bj]
 refine aW (by omega) (aW (by omega) ?_);simp only[dF,cP];refine⟨e.1,h1.γ.at c1,bA (λaI=>fin 0 0 4 (bad ?_)) λaI=>?_⟩
 ·unfold gd;rw[aY (by omega),cP,he]
  have:e.1=0:=by simpa using aI
  simp[this]
 ·have aI:e.1≠0:=by simpa using aI
  refine aW (by omega) (aW (by omega) ?_);refine⟨(two e.1 e.2.1).toArray,rfl,?_,aW rfl (fin e.1 e.2.1 0 ?_)⟩
  ·have:=(aw.drop (w:=δ) (a:=(⟨b4,0,none⟩:Addr)) h1.γ.cells (k*2))
   rw[dF]at this
   have:=a8.take (w:=δ) (a:=some _) this 2
   rw[bJ]at this;exact this
  ·unfold iu;rw[alR (by omega) he aI]
theorem aeH{w:World}{B b4:Nat}{R:bW}(h:kn w B b4 R):FX.C (some ⟨b4,0,none⟩) w (φ λu w'=>u=.tuple #[.int .i64 ((ly R).getD 0:Nat),.int .i64 (if(ly R).isSome then 0 else 7)]/\θ w w'):=by
 obtain⟨fR,h⟩:=h;apply FX.ok;unfold FX.main
 try dsimp only[bj]
 rw[IL];have dr:=h.len;refine κ.use (S:=λu w'=>u=.int .i64 (match ly R with|some i=>(i:Int)|none=>-1)/\θ w w') ?_ ?_
 ·apply tZ.ok;unfold tZ.main tZ.bd;refine⟨λcj cb cu t7 t8 w'=>some ⟨b4,0,none⟩=cj/\8=cb/\8=t7/\0<=t8/\t8<=8/\θ w w'/\∀(j:Nat)(e:fL),j<t8.toNat->R[j]?=some e->e.1≠0,λ_ _ _ _ t8 _=>(8-t8).toNat,⟨rfl,rfl,rfl,by omega,by omega,θ.refl w,λj e χ=>by omega⟩,?_⟩;rintro _ _ cu _ t8 w' ⟨rfl,rfl,rfl,aF,h1,I,dM⟩;unfold tZ.ε;obtain⟨k,rfl⟩:=eR aF;rw[cP]at dM;refine bA (λhk=>?_) λhk=>?_
  ·have hk:=cd hk;obtain⟨e,tp,he,aO⟩:=h.IY (k:=k) (by omega);obtain⟨c1,c2,bJ⟩:=h.jL he;refine aW (by omega) (aW (by omega) ?_)
   try dsimp only[bj]
   simp only[cP];refine⟨(two e.1 e.2.1).toArray,rfl,?_,?_⟩
   ·have:=(aw.drop (w:=w') (a:=(⟨b4,0,none⟩:Addr)) (h.ex I).γ.cells (k*2))
    have:=a8.take (w:=w') (a:=some _) this 2
    rw[bJ]at this;exact this
   refine κ.use (S:=λu υ=>u=.bool (e.1==0)/\θ w' υ) ?_ ?_
   ·apply IC.ok;unfold IC.main;rintro ε δ rfl rfl;have ρ:=μ.new (w:=w') (two e.1 e.2.1) jq;exact⟨e.1,ρ.at (j:=0) rfl,φ.mk ⟨rfl,θ.alloc w' _⟩⟩
   rintro _ υ ⟨rfl,τ⟩
   try dsimp only[dH]
   refine bA (λaI=>φ.mk ⟨?_,I.trans τ⟩) λaI=>?_
   ·have:ly R=some k:=by
     unfold ly;refine List.findIdx?_eq_some_iff_getElem.2 ⟨by omega,?_,λj χ=>?_⟩
     ·have:=(List.getElem?_eq_some_iff.1 he).2
      rw[this];simpa using aI
     ·have:=dM j R[j] χ (List.getElem?_eq_getElem _)
      simpa using this
    rw[this]
   ·rw[b3 (x:=(k:Int)+1) (by omega) (by omega)];refine⟨⟨by trivial,by trivial,by trivial,by omega,by omega,I.trans τ,λj c6 χ dO=>?_⟩,by((try dsimp only);omega)⟩;rcases Is j k with h|h
    ·exact dM j c6 h dO
    ·have:j=k:=by omega
     subst this;rw[he]at dO;cases dO;simpa using aI
  ·have hk:=dh hk
   have:ly R=none:=by
    unfold ly;rw[List.findIdx?_eq_none_iff];intro e he;obtain⟨j,χ,rfl⟩:=PT.1 he
    have:=dM j R[j] (by omega) (List.getElem?_eq_getElem _)
    simpa using this
   rw[this];exact φ.mk ⟨rfl,I⟩
 rintro _ δ ⟨rfl,ζ⟩
 try dsimp only[bH]
 cases ψ:ly R with
 |none=>rw[uo (by decide)];exact φ.mk ⟨rfl,ζ⟩
 |some i=>rw[iM (by dsimp only;omega)];exact φ.mk ⟨rfl,ζ⟩
end Go.Proofs.YtcpdfhkhaekekaaGreat.G.eh
namespace Go.Proofs.YtcpdfhkhaekekaaGreat.G.cr
open Go.bI Go.RowKit
def wg(k:Int)(live:ao)(but:Int)(i:Nat):Bool:=decide (0<live.getD i 0)&&decide (live.getD i 0<k)&&decide ((i:Int)≠but)
def hx(k:Int)(live:ao)(but:Int)(n:Nat):List Nat:=(List.range n).filter (wg k live but)
def q1(k:Int)(live iF:ao)(c:List Nat):ao:=c.map λi=>(k-live.getD i 0)*(iF.getD i 0+1)
def ri(k:Int)(live:ao)(c:List Nat):ao:=c.map λi=>k+live.getD i 0
def r7(k:Int)(live iF:ao)(but:Int):Option Nat:=
 let c:=hx k live but live.length
 if c=[]then none else some (c.getD (qR (q1 k live iF c) (ri k live c) c.length) 0)
theorem Zi(k:Int)(live:ao)(but:Int)(n:Nat):hx k live but (n+1)=hx k live but n++if wg k live but n then[n]else[]:=by
 unfold hx;rw[u2,Cw];congr 1;by_cases h:wg k live but n=true
 ·simp[h]
 ·simp[h]
theorem Zh{k:Int}{live:ao}{but:Int}{n:Nat}:∀i∈hx k live but n,i<n/\wg k live but i=true:=λi o=>by unfold hx at o;rw[mO,nF]at o;exact o
theorem akC(k:Int)(live:ao)(but:Int)(n:Nat):(hx k live but n).length<=n:=by unfold hx;exact fo (V3 _ _) (by simp)
def jF(p q:J):Prop:=∀x y,p=some x->q=some y->x.block≠y.block
structure xc(w0 w:World)(p q r:J)(n c1 c2 bJ:Nat)(xs ys k5:ao):Prop where
 ρ:μ w w0.heap.size ck 1 p n c1 (bs.cK xs)
 az:μ w w0.heap.size ck 1 q n c2 (bs.cK ys)
 bu:μ w w0.heap.size ck 1 r n bJ (bs.cK k5)
 a12:jF p q
 GY:jF p r
 a23:jF q r
theorem xc.ex{w0 w w':World}{p q r:J}{n c1 c2 bJ:Nat}{xs ys k5:ao}(h:xc w0 w p q r n c1 c2 bJ xs ys k5)(x:θ w w'):xc w0 w' p q r n c1 c2 bJ xs ys k5:=⟨h.ρ.ex x,h.az.ex x,h.bu.ex x,h.a12,h.GY,h.a23⟩
theorem RU{w:World}{B:Nat}{p:J}{n c:Nat}{xs:ao}(γ:μ w B ck 1 p n c (bs.cK xs))(dR:B<=w.heap.size)(ar:n<=100000)(x:Int){N:J->Nat->ai}
  (K:∀bU aT w',μ w' B ck 1 bU (n+1) aT (bs.cK (xs++[x]))->Kp w w' (λi=>∃a,p=some a/\a.block=i)->(bU=p\/∀a,bU=some a->w.heap.size<=a.block)->N bU aT w'):
  aR w #[.int .i64 x] ck λb δ=>gD δ p n c 1 (a8 δ (some ⟨b,0,none⟩)) ck 1 8 #[.int .i64 0] N:=by
 rintro ε δ rfl rfl;have ζ:=θ.alloc w (.cells #[.int .i64 x] ck);have c1:a8 (w.alloc (.cells #[.int .i64 x] ck)) (some ⟨w.heap.size,0,none⟩) [.int .i64 x]:=a8.alloc _ ck;generalize w.alloc (.cells #[.int .i64 x] ck)=δ at ζ c1⊢;refine By (γ.ex ζ) (fo dR ζ.size) [.int .i64 x] c1 rfl (λy ag=>by simp only[lp]at ag;subst ag;rfl) rfl (by omega) (by omega) λej fU b9 ff fN hp=>K ej fU b9 ?_ ((ζ.aC _).gr fN) ?_
 ·have:bs.cK (xs++[x])=bs.cK xs++[.int .i64 x]:=by simp[bs.cK]
  rw[this];exact ff
 ·rcases hp with hp|hp
  ·exact .inl hp
  ·exact .inr λa aP=>fo ζ.size (hp a aP)
theorem Dk{w:World}{B n c:Nat}{p bU q:J}{xs:aU}(h:jF p q)(hp:bU=p\/∀a,bU=some a->w.heap.size<=a.block)(γ:μ w B ck 1 q n c xs):jF bU q:=by
 rcases hp with rfl|hp
 ·exact h
 ·intro x y I ag
  have:=hp x I
  have:=(γ.ge ag).2
  omega
theorem jF.symm{p q:J}(h:jF p q):jF q p:=λx y I ag e=>h y x ag I e.symm
theorem HP{w w':World}{B n c:Nat}{p q:J}{xs:aU}(γ:μ w B ck 1 q n c xs)(k:Kp w w' λi=>∃a,p=some a/\a.block=i)(h:jF p q):μ w' B ck 1 q n c xs:=
 γ.aC k λx I⟨a,aP,e⟩=>h a x aP I e
theorem xc.push{w0 w:World}{p q r:J}{n c1 c2 bJ:Nat}{xs ys k5:ao}(h:xc w0 w p q r n c1 c2 bJ xs ys k5)(I:θ w0 w)(ar:n<=100000)(x y z:Int){N:J->Nat->J->Nat->J->Nat->ai}
  (K:∀bU d1 ng d2 AZ d3 w',xc w0 w' bU ng AZ (n+1) d1 d2 d3 (xs++[x]) (ys++[y]) (k5++[z])->θ w0 w'->N bU d1 ng d2 AZ d3 w'):
  aR w #[.int .i64 x] ck λaH ba=>gD ba p n c1 1 (a8 ba (some ⟨aH,0,none⟩)) ck 1 8 #[.int .i64 0] λad d1 bk=>
  aR bk #[.int .i64 y] ck λaf b9=>gD b9 q n c2 1 (a8 b9 (some ⟨af,0,none⟩)) ck 1 8 #[.int .i64 0] λaX d2 ca=>
  aR ca #[.int .i64 z] ck λdC dk=>gD dk r n bJ 1 (a8 dk (some ⟨dC,0,none⟩)) ck 1 8 #[.int .i64 0] λbl d3 cH=>N ad d1 aX d2 bl d3 cH:=by
 have ψ:=I.size;have low:∀{W:World}{p:J}{c:Nat}{l:ao},μ W w0.heap.size ck 1 p n c (bs.cK l)->∀i,(∃a,p=some a/\a.block=i)->w0.heap.size<=i:=λγ i⟨a,aP,o⟩=>o▸(γ.ge aP).1;refine RU h.ρ ψ ar x λad d1 bk ρ aZ yZ=>?_;have az:=HP h.az aZ h.a12;have bu:=HP h.bu aZ h.GY;have aV:=I.then aZ (low h.ρ);have a12:=Dk h.a12 yZ h.az;have GY:=Dk h.GY yZ h.bu;refine RU az aV.size ar y λaX d2 ca q0 bP l4=>?_;have a12:=(Dk a12.symm l4 ρ).symm;have a23:=Dk h.a23 l4 bu;have ρ:=HP ρ bP (Dk h.a12 yZ h.az).symm;have th:=HP bu bP h.a23;have cv:=aV.then bP (low az);refine RU th cv.size ar z λbl d3 cH aqX b7 na=>?_;have fu:=cv.then b7 (low th);exact K ad d1 aX d2 bl d3 cH ⟨HP ρ b7 GY.symm,HP q0 b7 a23.symm,aqX,a12,(Dk GY.symm na ρ).symm,(Dk a23.symm na q0).symm⟩ fu
theorem NZ{l:ao}{i:Nat}(h:i<l.length):l.getD i 0∈l:=eS (Ef h)
theorem art(k:Int)(live iF:ao)(c:List Nat)(i:Nat):q1 k live iF (c++[i])=q1 k live iF c++[(k-live.getD i 0)*(iF.getD i 0+1)]:=by simp[q1]
theorem awg(k:Int)(live:ao)(c:List Nat)(i:Nat):ri k live (c++[i])=ri k live c++[k+live.getD i 0]:=by simp[ri]
def zN(c:List Nat):ao:=c.map λ(i:Nat)=>(i:Int)
theorem ajn{w:World}{s k:Int}(hm:bs.may s k=true){p q bp:J}{n c d bc:Nat}{live iF:ao}{but:Int}(an:a8 w p (bs.cK live))(aP:a8 w q (bs.cK iF))(ω:a8 w bp (bs.cK [but]))(xG:live.length=n)(axm:iF.length=n)(ψ:(n:Int)=s)
  (Ko:∀x∈live,0<=x/\x<=k)(Ka:∀x∈iF,0<=x/\x<65536):
  jh.C s k p n c q n d bp 1 bc w (φ λv w'=>v=(match r7 k live iF but with|none=>.tuple #[.int .i64 0,.int .i64 4]|some g=>.tuple #[.int .i64 (g:Int),.int .i64 0])/\θ w w'):=by
 have iv:6<=s/\s<=24/\2<=k/\k<=16:=by unfold bs.may at hm;simp at hm;omega
 have Un:r7 k live iF but=let c:=hx k live but n;if c=[]then none else some (c.getD (qR (q1 k live iF c) (ri k live c) c.length) 0):=by unfold r7;rw[xG]
 apply jh.ok;unfold jh.main;rintro ε δ eb rfl;have ρ:=μ.new (w:=w) (two s k) b5;rw[<-eb]at ρ;have ζ:=θ.alloc w (.cells (two s k).toArray b5);have aM:w.alloc (.cells #[.int .i64 s,.int .i64 k] b5)=w.alloc (.cells (two s k).toArray b5):=rfl;rw[aM];generalize w.alloc (.cells (two s k).toArray b5)=δ at ρ ζ⊢;refine⟨(two s k).toArray,rfl,ρ.cells,?_⟩;refine κ.use (ak4 hm (an.ex ζ) xG ψ Ko) ?_;rintro _ υ ⟨rfl,τ⟩
 try dsimp only[dH]
 have ρ:=ρ.ex τ;have fM:=ζ.trans τ;have aqR:=ρ;refine⟨s,ρ.at (j:=0) rfl,?_⟩;rw[cond_neg (by simp[ψ])];unfold jh.bd
 refine⟨λez et eT dW dL ec t4 fh fa fq gi fQ gx hX fB ir kL kK lQ t34 t35 w'=>q=ez/\n=et/\bp=dW/\1=dL/\ε=t4/\p=kL/\n=kK/\(n:Int)=t34/\0<=t35/\t35<=n/\θ w w'/\μ w' ε b5 2 (some ⟨ε,0,none⟩) 1 1 (two s k)/\fB=fa/\fB=fQ/\fB=(hx k live but t35.toNat).length/\
   xc υ w' fh gi hX fB fq gx ir (q1 k live iF (hx k live but t35.toNat)) (ri k live (hx k live but t35.toNat)) (zN (hx k live but t35.toNat))/\θ υ w',
  λ_ _ _ _ _ _ _ _ _ _ _ _ _ _ _ _ _ _ _ _ t35 _=>(n-t35).toNat,⟨rfl,rfl,rfl,rfl,rfl,rfl,rfl,rfl,by omega,by omega,fM,ρ,rfl,rfl,rfl,⟨μ.nil _ _ _ _,μ.nil _ _ _ _,μ.nil _ _ _ _,(λx y h=>by cases h),(λx y h=>by cases h),(λx y h=>by cases h)⟩,θ.refl _⟩,?_⟩
 rintro _ _ eT _ _ ec _ fh fa fq gi fQ gx hX fB ir _ _ lQ _ t35 w' ⟨rfl,rfl,rfl,rfl,rfl,rfl,rfl,rfl,aF,h1,I,ρ,rfl,rfl,uF,en,iz⟩;unfold jh.ε;obtain⟨i,rfl⟩:=eR aF;rw[cP]at en uF;have Hs:=akC k live but i;have lh:IntKind.i64.wrap ((i:Int)+1)=((i+1:Nat):Int):=by rw[b3 (by omega) (by omega)];rfl
 refine bA (λo=>?_) λo=>?_
 ·have o:=cd o;have lg:i<n:=by omega
  obtain⟨aq,aM,cS⟩:=(an.ex I).many (bs.uL (Ef (l:=live) (i:=i) (by omega)));obtain⟨a2,bz,fX⟩:=((aP.ex I).ex (θ.drew w')).many (bs.uL (Ef (l:=iF) (i:=i) (by omega)));have acp:=Ko _ (NZ (l:=live) (i:=i) (by omega));have YH:=Ka _ (NZ (l:=iF) (i:=i) (by omega));refine aW (by omega) (aW (by omega) (gK aM ⟨_,by rw[cP,eG];exact cS,k,(ρ.ex (θ.drew w')).at (j:=1) rfl,?_⟩));refine aW (by omega) (aW (by omega) (gK bz ⟨_,by rw[cP,eG];exact fX,?_⟩));generalize lZ:live.getD i 0=L at acp cS⊢;generalize eY:iF.getD i 0=A at YH fX⊢;refine κ.use (ajx (by omega) acp YH _) ?_;rintro _ ax ⟨rfl,iS⟩;obtain rfl:=iS.symm
  try dsimp only[bZ,cC,cD,mY,bj,bH]
  rw[cond_neg (by rfl)];have AM:∀W,θ υ W->μ W ε b5 2 (some ⟨ε,0,none⟩) 1 1 (two s k):=λW vq=>aqR.ex vq;have eH:=θ.drew w';have I:=I.trans eH;have iz:=iz.trans eH;have ρ:=ρ.ex eH;have en:=en.ex eH;generalize w'.drew=w' at I iz ρ en⊢;unfold jh.fm;refine⟨λez et wK dW dL wL t4 av0 avZ avY av3 av2 av1 av6 av5 av4 t13 t14 t15 t16 kL kK A7 t34 t35 zC zB A9 t56 t57 W=>iF.length=iF.length/\q=ez/\n=et/\bp=dW/\1=dL/\ε=t4/\fh=av0/\fB=avZ/\fq=avY/\gi=av3/\fB=av2/\gx=av1/\hX=av6/\fB=av5/\ir=av4/\(i:Int)=t13/\L=t14/\(k-L)*(A+1)=t15/\k+L=t16/\p=kL/\n=kK/\(n:Int)=t34/\(i:Int)=t35/\bp=zC/\1=zB/\t56=1/\(t57=0\/t57=1/\(i:Int)≠but)/\w'=W,
   λ_ _ _ _ _ _ _ _ _ _ _ _ _ _ _ _ _ _ _ _ _ _ _ _ _ _ _ _ _ t57 _=>(1-t57).toNat,⟨rfl,rfl,rfl,rfl,rfl,rfl,rfl,rfl,rfl,rfl,rfl,rfl,rfl,rfl,rfl,rfl,rfl,rfl,rfl,rfl,rfl,rfl,rfl,rfl,rfl,rfl,.inl rfl,rfl⟩,?_⟩
  rintro _ _ wK _ _ wL _ _ _ _ _ _ _ _ _ _ _ _ _ _ _ _ A7 _ _ _ _ A9 _ t57 W ⟨-,rfl,rfl,rfl,rfl,rfl,rfl,rfl,rfl,rfl,rfl,rfl,rfl,rfl,rfl,rfl,rfl,rfl,rfl,rfl,rfl,rfl,rfl,rfl,rfl,rfl,amI,rfl⟩;unfold jh.ι;rw[lh];have same:wg k live but i=false->hx k live but (i+1)=hx k live but i:=λe=>by rw[Zi,e];simp
  rcases amI with rfl|⟨rfl,cc⟩
  ·rw[uo (by omega)];obtain⟨a3,gw,jC⟩:=(ω.ex I).one rfl;refine aW (by omega) (aW (by omega) (gK gw ⟨but,?_,?_⟩))
   ·rw[show(0:Int).toNat*1=0 from rfl,Addr.add_zero'];exact jC
   refine bA (λqa=>?_) λqa=>?_
   ·have qa:but=(i:Int):=by simpa using qa
    have e:=same (by unfold wg;simp[qa]);refine⟨⟨rfl,rfl,rfl,rfl,rfl,rfl,rfl,rfl,by omega,by omega,I,ρ,rfl,rfl,?_,?_,iz⟩,by((try dsimp only);omega)⟩
    ·show fB=(hx k live but (i+1)).length;rw[e];exact uF
    ·show xc υ w' _ _ _ _ _ _ _ (q1 k live iF (hx k live but (i+1))) (ri k live (hx k live but (i+1))) (zN (hx k live but (i+1)));rw[e];exact en
   ·have qa:but≠(i:Int):=by simpa using qa
    exact⟨⟨rfl,rfl,rfl,rfl,rfl,rfl,rfl,rfl,rfl,rfl,rfl,rfl,rfl,rfl,rfl,rfl,rfl,rfl,rfl,rfl,rfl,rfl,rfl,rfl,rfl,rfl,.inr ⟨rfl,λe=>qa e.symm⟩,rfl⟩,(by dsimp only;decide)⟩
  ·rw[iM (by omega)];have Zg:wg k live but i=(decide (0<L)&&decide (L<k)):=by unfold wg;rw[lZ,bC cc,Bool.and_true]
   unfold jh.aZ
   have go:∀b,b=wg k live but i->jh.bP q n wK bp 1 wL ε fh fB fq gi fB gx hX fB ir (i:Int) ((k-L)*(A+1)) (k+L) p n A7 (n:Int) (i:Int) b w' (φ λv w'=>v=(match r7 k live iF but with|none=>.tuple #[.int .i64 0,.int .i64 4]|some g=>.tuple #[.int .i64 (g:Int),.int .i64 0])/\θ w w') (λzw zv wK zy zx wL ya Gr Gq Gp A6 A5 A4 Gt zr Gs Gw Gv A7 Gx vd QP=>(q=zw/\n=zv/\bp=zy/\1=zx/\ε=ya/\p=Gw/\n=Gv/\(n:Int)=Gx/\0<=vd/\vd<=n/\θ w QP/\μ QP ε b5 2 (some ⟨ε,0,none⟩) 1 1 (two s k)/\zr=Gq/\zr=A5/\zr=(hx k live but vd.toNat).length/\
     xc υ QP Gr A6 Gt zr Gp A4 Gs (q1 k live iF (hx k live but vd.toNat)) (ri k live (hx k live but vd.toNat)) (zN (hx k live but vd.toNat))/\θ υ QP)/\(n-vd).toNat<(n-(i:Int)).toNat):=by
    rintro b rfl;unfold jh.bP;rw[lh];refine bA (λπ=>?_) λπ=>?_
    ·have JR:hx k live but (i+1)=hx k live but i++[i]:=by rw[Zi,π];rfl
     refine en.push iz (by omega) _ _ _ λad d1 aX d2 bl d3 W jX HI=>?_;have OM:θ w W:=fM.trans HI;refine⟨⟨rfl,rfl,rfl,rfl,rfl,rfl,rfl,rfl,by omega,by omega,OM,?_,rfl,rfl,?_,?_,HI⟩,by((try dsimp only);omega)⟩
     ·exact AM W HI
     ·show fB+1=(hx k live but (i+1)).length;rw[JR,e9,uF];rfl
     ·show xc υ W _ _ _ _ _ _ _ (q1 k live iF (hx k live but (i+1))) (ri k live (hx k live but (i+1))) (zN (hx k live but (i+1)));rw[JR,art,awg,lZ,eY]
      have:zN (hx k live but i++[i])=zN (hx k live but i)++[(i:Int)]:=by simp[zN]
      rw[this];exact jX
    ·have e:=same π;refine⟨⟨rfl,rfl,rfl,rfl,rfl,rfl,rfl,rfl,by omega,by omega,I,ρ,rfl,rfl,?_,?_,iz⟩,by((try dsimp only);omega)⟩
     ·show fB=(hx k live but (i+1)).length;rw[e];exact uF
     ·show xc υ w' _ _ _ _ _ _ _ (q1 k live iF (hx k live but (i+1))) (ri k live (hx k live but (i+1))) (zN (hx k live but (i+1)));rw[e];exact en
   refine bA (λhp=>?_) λhp=>?_
   ·have hp:=cd hp;refine⟨k,ρ.at (j:=1) rfl,?_⟩;exact go _ (by rw[Zg,bC (by omega:0<L),PL])
   ·have hp:=dh hp;exact go _ (by rw[Zg,iJ (by omega:¬0<L)];rfl)
 ·have o:=dh o;obtain rfl:i=n:=by omega
  unfold jh.b7;rw[Un];generalize π:hx k live but i=aT at en uF Hs;have dg:∀j∈aT,j<i/\wg k live but j=true:=λj χ=>Zh j (π▸χ);dsimp only;refine bA (λaI=>?_) λaI=>?_
  ·have aI:fB=0:=by simpa using aI
   have:aT=[]:=q9 (by omega)
   subst this;rw[aY rfl];exact φ.mk ⟨rfl,I⟩
  ·have aI:fB≠0:=by simpa using aI
   have cc:aT≠[]:=λe=>by rw[e]at uF;simp at uF;omega
   rw[aN cc];have e6:(q1 k live iF aT).length=fB:=by simp[q1,uF]
   have aqh:(ri k live aT).length=fB:=by simp[ri,uF]
   have aeg:∀j∈aT,0<=live.getD j 0/\live.getD j 0<=k/\0<=iF.getD j 0/\iF.getD j 0<65536:=λj χ=>by have h1:=Ko _ (NZ (l:=live) (i:=j) (by have:=(dg j χ).1;omega));have η:=Ka _ (NZ (l:=iF) (i:=j) (by have:=(dg j χ).1;omega));omega
   have jj:=Ni (q1 k live iF aT) (ri k live aT) (eF fB) (by omega);refine κ.use (ais (n:=fB) en.ρ.cells en.az.cells e6 aqh (by omega) (λx I=>?_) λx I=>?_) ?_
   ·obtain⟨j,χ,rfl⟩:=gM.1 I
    have:=aeg j χ
    have m1:0<=(k-live.getD j 0)*(iF.getD j 0+1):=zn (by omega) (by omega);have m2:(k-live.getD j 0)*(iF.getD j 0+1)<=16*65536:=se (by omega) (by omega) (by omega) (by omega);omega
   ·obtain⟨j,χ,rfl⟩:=gM.1 I
    have:=aeg j χ
    omega
   rintro _ aG ⟨rfl,al⟩
   try dsimp only[bZ,cC,cD,bj,bH]
   rw[<-uF];generalize qR (q1 k live iF aT) (ri k live aT) fB=lW at jj⊢;refine aW (by omega) (aW (by omega) ?_);obtain⟨a,e,r⟩:=(en.bu.cells.ex al).many (bs.uL (l:=zN aT) (i:=lW) (x:=((aT.getD lW 0:Nat):Int)) (by unfold zN;rw[List.getElem?_map,List.getD_eq_getElem?_getD,List.getElem?_eq_getElem (by omega)];rfl));exact gK e ⟨_,by rw[cP,eG];exact r,φ.mk ⟨rfl,I.trans al⟩⟩
end Go.Proofs.YtcpdfhkhaekekaaGreat.G.cr
