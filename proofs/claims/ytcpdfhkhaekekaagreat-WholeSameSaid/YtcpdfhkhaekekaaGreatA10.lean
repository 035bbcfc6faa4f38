/- The walk of the functions, and the plain laws of the model: part of the proof. Conditions: none. -/
import Derived.Test.YtcpdfhkhaekekaaGreatA9
set_option linter.unusedVariables false
set_option linter.unusedSimpArgs false
namespace Go.Proofs.YtcpdfhkhaekekaaGreat.G.bA
open Tryz
open Go.bJ Go.RowKit
theorem pU{α:Type}{l:List α}{i:Nat}(h:i<l.length):∃x,l[i]?=some x/\x∈l/\l.drop i=x::l.drop (i+1):=⟨l[i],List.getElem?_eq_getElem h,hP h,JL h⟩
def cW(l:aq):aY:=l.map (Value.int .i64)
theorem QB(l:aq):∀y∈cW l,y.oneCell'=true:=Kr _ _
theorem vO{l:aq}{i:Nat}{x:Int}(h:l[i]?=some x):(cW l)[i]?=some (.int .i64 x):=by unfold cW;rw[List.getElem?_map,h];rfl
theorem p3(l:aq):(cW l).length=l.length:=by simp[cW]
def cH(k:Int):Nat:=FloatKind.f64.nearest k
theorem yc:cH 0=0:=by kernel_rfl
theorem KC(p:γ)(n c:Nat)(xs:aY)(w:World)(π:bd w p xs)(ak:xs.length=n)(ar:n<=1000000000000)(h1:∀y∈xs,y.oneCell'=true):
  Hw.C p n c w (ω λv w'=>∃b5 aW,v=.slice b5 n aW/\η w w'/\μ w' w.heap.size 3 1 b5 n aW xs):=by
 apply Hw.ok;unfold Hw.main;cases p with
 |none=>
  have:xs=[]:=π
  subst this
  have:n=0:=by simpa using ak.symm
  subst this
  try dsimp only[Lh,C0]
  exact ω.mk ⟨none,0,rfl,η.refl w,μ.nil _ _ _ _⟩
 |some a=>
  try dsimp only[nD,jz]
  rintro δ ε rfl rfl;have aG:=μ.alloc (w:=w) [] 3 1 0 rfl;have J:=η.alloc w (.cells #[] 3);refine mx aG (by have:=J.size;exact this) xs (bd.ex J π) (by omega) h1 rfl (by omega) (by omega) (λb5 aW w' kf hk=>?_);rw[oh]at kf⊢;rw[uJ]at kf;exact ω.mk ⟨b5,aW,rfl,J.then hk (λi⟨x,e,I⟩=>by cases e;exact JK I),kf⟩
def has(l:aq)(k:Int):Bool:=l.any λx=>k==x
theorem O9{α:Type}{P:α->Bool}{l:List α}{i:Nat}{x:α}(I:l[i]?=some x)(J:P x=true):l.any P=true:=Rk.2 ⟨x,fa I,J⟩
theorem any_none{α:Type}{P:α->Bool}{l:List α}(h:∀(j:Nat)x,j<l.length->l[j]?=some x->P x=false):l.any P=false:=by
 rw[JM];intro x J;obtain⟨j,ψ⟩:=List.getElem?_of_mem J
 have:=h j x (List.getElem?_eq_some_iff.1 ψ).1 ψ
 simp[this]
theorem P1(l:aq)(k:Int):has l k=true↔k∈l:=by
 unfold has;rw[Rk];constructor
 ·rintro⟨x,J,h⟩
  have:k=x:=by simpa using h
  rw[this];exact J
 ·exactλh=>⟨k,h,by simp⟩
theorem Zp{w:World}{p:γ}{n c:Nat}{xs:aq}(ak:bd w p (cW xs))(ar:xs.length=n)(τ:n<=1000000000000)(k:Int):Hx.C p n c k w (ω λv w'=>v=.bool (has xs k)/\η w w'):=by
 apply Hx.ok;unfold Hx.main;have main:wh.C p n c k w (ω λv w'=>∃r,v=.int .i64 r/\decide (r>=0)=has xs k/\η w w'):=by
  apply wh.ok;unfold wh.main;refine⟨λcy cp cG t1 t7 t8 w'=>p=cy/\n=cp/\c=cG/\k=t1/\t7=(n:Int)/\0<=t8/\t8<=(n:Int)/\η w w'/\∀(j:Nat)x,j<t8.toNat->xs[j]?=some x->(k==x)=false,λcy cp cG t1 t7 t8 w'=>((n:Int)-t8).toNat,?_,?_⟩
  ·exact⟨rfl,rfl,rfl,rfl,rfl,by omega,by omega,η.refl w,λj x ψ=>by simp at ψ⟩
  rintro _ _ _ _ _ t8 ε ⟨rfl,rfl,rfl,rfl,rfl,aF,h1,θ,pg⟩;unfold wh.δ;refine bt (λπ=>?_) (λπ=>?_)
  ·have π:=b6 π;obtain⟨x,J,Gh,_⟩:=pU (l:=xs) (i:=t8.toNat) (by omega);obtain⟨a,rfl,kq⟩:=(ak.ex θ).many (j:=t8.toNat) (vO J);rw[<-eS t8.toNat]at kq;refine aT aF (aT π ⟨x,kq,?_⟩);refine bt (λag=>?_) (λag=>?_)
   ·exact ω.mk ⟨t8,rfl,by rw[has,O9 J ag];simpa using aF,θ⟩
   ·rw[bS (by omega) (by omega)];refine⟨⟨rfl,rfl,rfl,rfl,rfl,by omega,by omega,θ,λj y ψ uo=>?_⟩,by((try dsimp only);omega)⟩;by_cases L3:j<t8.toNat
    ·exact pg j y L3 uo
    ·have:j=t8.toNat:=by omega
     subst this;rw[J]at uo;cases uo;exact ag
  ·have π:=dn π;refine ω.mk ⟨-1,rfl,?_,θ⟩;rw[has,any_none λj x ψ J=>pg j x (by omega) J];decide
 refine κ.use main ?_;rintro _ ε ⟨r,rfl,φ,θ⟩
 try dsimp only[bL]
 rw[φ];exact ω.mk ⟨rfl,θ⟩
theorem Tj(a:Int)(w:World):cmp_isNaN_int.C a w (ω λv w'=>v=.bool false/\w'=w):=by apply cmp_isNaN_int.ok;unfold cmp_isNaN_int.main;exact ω.mk ⟨by simp,rfl⟩
theorem akE(a:Int)(w:World):Hz.C a w (ω λv w'=>v=.bool false/\w'=w):=by apply Hz.ok;unfold Hz.main;exact ω.mk ⟨by simp,rfl⟩
theorem akB(a b:Int)(w:World):cmp_Less_int.C a b w (ω λv w'=>v=.bool (decide (a<b))/\w'=w):=by
 apply cmp_Less_int.ok;unfold cmp_Less_int.main;refine κ.use (Tj a w) ?_;rintro _ ε ⟨rfl,rfl⟩
 try dsimp only[dX,jz]
 exact ω.mk ⟨rfl,rfl⟩
def Ew(l:aq):Prop:=l.Pairwise (·<·)
theorem ak3{w:World}{p:γ}{n c:Nat}{xs:aq}(ak:bd w p (cW xs))(ar:xs.length=n)(τ:n<=1000000000000)(φ:Ew xs)(k:Int):
  rQ.C p n c k w (ω λv w'=>w'=w/\∃(i:Nat)(f:Bool),v=.tuple #[.int .i64 (i:Int),.bool f]/\i<=n/\(∀x∈xs.take i,x<k)/\∀x∈xs.drop i,k<=x):=by
 apply rQ.ok;unfold rQ.main;have aem:∀(i j:Nat)x y,xs[i]?=some x->xs[j]?=some y->i<j->x<y:=λi j x y I ψ F2=>by
  have:=DX.1 φ i j (List.getElem?_eq_some_iff.1 I).1 (List.getElem?_eq_some_iff.1 ψ).1 F2
  rw[(List.getElem?_eq_some_iff.1 I).2,(List.getElem?_eq_some_iff.1 ψ).2]at this;exact this
 have kq:∀i:Nat,i<n->∃a x,p=some a/\xs[i]?=some x/\w.cell? (a.add (i*1))=some (.int .i64 x):=λi I=>by obtain⟨x,J,_⟩:=pU (l:=xs) (i:=i) (by omega);obtain⟨a,aR,π⟩:=ak.many (j:=i) (vO J);rw[<-eS i]at π;exact⟨a,x,aR,J,π⟩
 refine⟨λcy cp cG t1 t6 t7 t8 w'=>p=cy/\n=cp/\c=cG/\k=t1/\t6=(n:Int)/\0<=t7/\t7<=t8/\t8<=(n:Int)/\w=w'/\(∀(j:Nat)x,(j:Int)<t7->xs[j]?=some x->x<k)/\(∀(j:Nat)x,t8<=(j:Int)->xs[j]?=some x->k<=x),λcy cp cG t1 t6 t7 t8 w'=>(t8-t7).toNat,?_,?_⟩
 ·refine⟨rfl,rfl,rfl,rfl,rfl,by omega,by omega,by omega,rfl,λj x ψ=>by omega,λj x ψ J=>?_⟩
  have:=(List.getElem?_eq_some_iff.1 J).1
  omega
 rintro _ _ _ _ _ fk I ε ⟨rfl,rfl,rfl,rfl,rfl,aF,h1,ι,rfl,qD,Qd⟩;unfold rQ.δ;have L6:IntKind.i64.wrap (Int.fdiv (IntKind.u64.wrap (IntKind.i64.wrap (fk+I))) (2^(min 1 IntKind.u64.bits)))=(fk+I)/2:=by
  have aP:IntKind.u64.wrap (IntKind.i64.wrap (fk+I))=fk+I:=by rw[bS (by omega) (by omega)];simp[IntKind.wrap,IntKind.signed,IntKind.bits];omega
  have bM:(2:Int)^(min 1 IntKind.u64.bits)=2:=by decide
  rw[aP,bM,JN _ (by omega),bS (by omega) (by omega)]
 rw[L6];refine bt (λπ=>?_) (λπ=>?_)
 ·have π:=b6 π;obtain⟨a,x,rfl,J,w5⟩:=kq ((fk+I)/2).toNat (by omega);refine aT (by omega) (aT (by omega) ⟨x,w5,?_⟩);refine κ.use (akB x k w) ?_;rintro _ υ ⟨rfl,rfl⟩
  try dsimp only[dX]
  refine bt (λbQ=>?_) (λbQ=>?_)
  ·have bQ:=b6 bQ;rw[bS (by omega) (by omega)];refine⟨⟨rfl,rfl,rfl,rfl,rfl,by omega,by omega,by omega,rfl,λj y ψ ag=>?_,Qd⟩,by((try dsimp only);omega)⟩;by_cases VX:j=((fk+I)/2).toNat
   ·subst VX;rw[J]at ag;cases ag;exact bQ
   ·have:=aem j _ y x ag J (by omega)
    omega
  ·have bQ:=dn bQ;refine⟨⟨rfl,rfl,rfl,rfl,rfl,by omega,by omega,by omega,rfl,qD,λj y ψ ag=>?_⟩,by((try dsimp only);omega)⟩;by_cases VX:j=((fk+I)/2).toNat
   ·subst VX;rw[J]at ag;cases ag;omega
   ·have:=aem _ j x y J ag (by omega)
    omega
 ·have π:=dn π
  have:I=fk:=by omega
  subst this;have fin:∀f:Bool,ω (λv w'=>w'=w/\∃(i:Nat)(f:Bool),v=.tuple #[.int .i64 (i:Int),.bool f]/\i<=n/\(∀x∈xs.take i,x<k)/\∀x∈xs.drop i,k<=x) (.returned (.tuple #[.int .i64 I,.bool f])) w:=λf=>by
   refine ω.mk ⟨rfl,I.toNat,f,by rw[show((I.toNat:Nat):Int)=I by omega],by omega,λx J=>?_,λx J=>?_⟩
   ·obtain⟨j,ψ⟩:=List.getElem?_of_mem J;rw[List.getElem?_take]at ψ;split at ψ
    ·exact qD j x (by omega) ψ
    ·cases ψ
   ·obtain⟨j,ψ⟩:=List.getElem?_of_mem J;rw[List.getElem?_drop]at ψ;exact Qd _ x (by omega) ψ
  unfold rQ.aV;refine bt (λah=>?_) (λ_=>fin false);have ah:=b6 ah;obtain⟨a,x,rfl,J,w5⟩:=kq I.toNat (by omega);refine aT aF (aT (by omega) ⟨x,w5,bt (λ_=>fin true) (λ_=>aT aF (aT (by omega) ⟨x,w5,?_⟩))⟩);refine κ.use (akE x w) ?_;rintro _ υ ⟨rfl,rfl⟩
  try dsimp only[dX,jz]
  exact fin false
def ins(l:aq)(i:Nat)(v:Int):aq:=l.take i++v::l.drop i
theorem avf(w:World):(Go.sizeOf 3).run prog w=.ok 1 w:=aiN.sY (H:=w.heap) w rfl
theorem akr{w:World}{B:Nat}{p:γ}{n c:Nat}{xs:aq}(aG:μ w B 3 1 p n c (cW xs))(eh:B<=w.heap.size)(ar:n<=1000000){i:Nat}(I:i<=n){AN:Nat}{v:Int}(az:w.heap[AN]?=some (.cells #[.int .i64 v] 3))(b1:∀x,p=some x->AN≠x.block):
  Hy.C p n c (i:Int) (some ⟨AN,0,none⟩) 1 1 w (ω λr w'=>∃b5 aW,r=.slice b5 (n+1) aW/\μ w' B 3 1 b5 (n+1) aW (cW (ins xs i v))/\Kp w w' (λj=>∃x,p=some x/\x.block=j)/\(b5=p\/∀x,b5=some x->w.heap.size<=x.block)):=by
 apply Hy.ok;unfold Hy.main;have p2:xs.length=n:=by have:=aG.1;rw[p3]at this;omega
 have Mp:bd w (some ⟨AN,0,none⟩) [.int .i64 v]:=λj y ψ=>by
  rw[Addr.add_lit];simp only[oh];rw[cell_of_block az];rcases j with _|j
  ·exact ψ
  ·simp at ψ
 have arp:IntKind.i64.wrap ((n:Int)+((1:Nat):Int))=(n:Int)+1:=by rw[bS (by omega) (by omega)];rfl
 have aro:IntKind.i64.wrap ((i:Int)+((1:Nat):Int))=(i:Int)+1:=by rw[bS (by omega) (by omega)];rfl
 have arl:IntKind.i64.wrap ((n:Int)+1-(i:Int))=(n:Int)+1-(i:Int):=bS (by omega) (by omega);rw[arp,aro,arl];have aP:(i:Int).toNat=i:=by omega
 have bM:((n:Int)+1).toNat=n+1:=by omega
 have gA:((i:Int)+1).toNat=i+1:=by omega
 have jE:((n:Int)+1-(i:Int)).toNat=n+1-i:=by omega
 rw[aP,bM,gA,jE,aG.avg 1];refine aT (by omega) (aT (by omega) ?_);rw[cond_neg (by decide)];refine bt (λc8=>?_) (λc8=>?_)
 ·have c8:(i:Int)=(n:Int):=by simpa using c8
  have c8:i=n:=by omega
  subst c8;refine CM aG eh [.int .i64 v] Mp rfl (by simp[Value.oneCell']) rfl (by omega) (by omega) λb5 aW w' ib k' F5=>?_;have e:cW xs++[.int .i64 v]=cW (ins xs i v):=by unfold ins cW;rw[hR (by omega),sq (by omega),ss];rfl
  rw[e]at ib;exact ω.mk ⟨b5,aW,rfl,ib,k',F5⟩
 have c8:¬(i:Int)=(n:Int):=by simpa using c8
 have bQ:i<n:=by omega
 obtain⟨cq,td,_,P9⟩:=pU (l:=xs) (i:=i) (by omega);refine bt (λjG=>?_) (λjG=>?_)
 ·have jG:=b6 jG;have qE:=aG.2.1;refine aT (by omega) (aT (by omega) (aT (by omega) ?_));have ap8:=aG.less (k:=i) (by omega);refine al5 ap8 (by omega) (by omega) (by omega) λaW υ lR BJ ρ af=>?_;rw[show i+(n+1-i)=n+1 by omega]at af⊢;have Ge:((cW xs).take (i*1)).length=i:=by rw[hs,p3];omega
  have are:=Mp.ex ρ;have Gc:bd υ (dL p c i 1) (cW (xs.drop i)):=by
   have:=(aG.cells.ex ρ).slice c i n (by rw[p3];omega)
   rw[hR (by rw[lg,p3];omega)]at this;unfold cW at this⊢
   rwa[<-yX]at this
  refine aT (by omega) (aT (by omega) ?_);refine Pp af i are (by simp;omega) (by simp;omega) (by simp[Value.oneCell']) λχ bh b4=>?_;have Mf:∀x,p=some x->x.block≠w.heap.size:=λx J=>by have:=(aG.typed J).2.2;omega
  have aqQ:bd χ.drew (dL p c i 1) (cW (xs.drop i)):=by
   refine bd.ex (η.drew χ) (Gc.aO b4 λx J⟨y,ag,τ⟩=>?_);cases ag;unfold dL at J;split at J
   ·exact Mf x J τ.symm
   ·cases p with
    |none=>cases J
    |some q=>
     simp only[jB,tt]at J;subst J;rw[zv]at τ;exact Mf q rfl τ.symm
  refine aT (by omega) (aT (by omega) (aT (by omega) (aT (by omega) ?_)));refine Pp (bh.ex (η.drew χ)) (i+1) aqQ (by rw[p3,lg];omega) (by rw[p3,lg];omega) (QB _) λao cJ cI=>?_;have s5:∀j,(∃x,some (⟨w.heap.size,0,none⟩:Addr)=some x/\x.block=j)->w.heap.size<=j:=λj⟨x,J,ψ⟩=>by cases J;exact JK ψ
  have iF:η w ao:=((ρ.then b4 s5).trans (η.drew χ)).then cI s5;have Uy:List.take (i+1) (List.take i ((cW xs).take (i*1)++lR)++[Value.int .i64 v]++List.drop (i+[Value.int .i64 v].length) ((cW xs).take (i*1)++lR))++cW (xs.drop i)++List.drop (i+1+(cW (xs.drop i)).length) (List.take i ((cW xs).take (i*1)++lR)++[Value.int .i64 v]++List.drop (i+[Value.int .i64 v].length) ((cW xs).take (i*1)++lR))=cW (ins xs i v):=by
   have h1:List.take i ((cW xs).take (i*1)++lR)=cW (xs.take i):=by rw[qj (by omega),Ce,eS,Nat.min_self];unfold cW;rw[xA]
   rw[h1];have ι:(cW (xs.take i)++[Value.int .i64 v]).length=i+1:=by rw[fw,p3,hs];simp;omega
   have aJ:∀(R:aY),R.length<=n-i->List.drop (i+1+(cW (xs.drop i)).length) (cW (xs.take i)++[Value.int .i64 v]++R)=[]:=λR iU=>sq (by rw[fw,ι,p3,lg];omega)
   rw[aJ _ (by simp only[fw,lg,hs,p3,kU,G8,BJ];omega),qj (by omega),hR (by omega),qi];unfold ins cW;simp
  rw[Uy]at cJ;exact ω.mk ⟨_,aW,rfl,cJ.lower eh,iF.aO _,.inr λx J=>by cases J;exact dO _⟩
 ·have jG:=dn jG;have hp:∃b,p=some ⟨b,0,none⟩:=by
   rcases aG.2.2 with⟨_,h⟩|⟨b,_,_,h,_⟩
   ·omega
   ·exact⟨b,h⟩
  obtain⟨b,rfl⟩:=hp;refine aT (by omega) (aT (by omega) (aT (by omega) (aT (by omega) ?_)));obtain⟨ys,Gj,atg⟩:=aG.more (k:=n+1) (by omega) (by omega);have hblk:∃cur fr,w.heap[b]?=some (.cells cur 3 fr)/\cur.size≠0:=by
   rcases aG.2.2 with⟨h,_⟩|⟨gg,cur,fr,h,_,τ,_,jY,_⟩
   ·cases h
   ·cases h;exact⟨cur,fr,τ,by omega⟩
  obtain⟨cur,fr,τ,VA⟩:=hblk;have Ds:dL (some (⟨b,0,none⟩:Addr)) c (i+1) 1=some ⟨b,if c=i+1 then 0 else i+1,none⟩:=by
   unfold dL;split
   ·rfl
   ·simp[Addr.add_lit]
  rw[Ds];refine anW func143 (by kernel_rfl) (by kernel_rfl) (by kernel_rfl) (t:=35) (r:=4) (e:=3) (by kernel_rfl) underlying35 avf az τ VA (b1 _ rfl) ?_
  try dsimp only[dX]
  simp only[v7,Ar,ts,xz];rw[<-Ds];have Gc:bd w.drew (dL (some ⟨b,0,none⟩) c i 1) ((cW (xs.drop i))):=by
   have:=(aG.cells.ex (η.drew w)).slice c i n (by rw[p3];omega)
   rw[hR (by rw[lg,p3];omega)]at this;unfold cW at this⊢
   rwa[<-yX]at this
  refine aT (by omega) (aT (by omega) (aT (by omega) (aT (by omega) ?_)));refine Pp (atg.ex (η.drew w)) (i+1) Gc (by rw[p3,lg];omega) (by rw[p3,lg];omega) (QB _) λaZ bY eD=>?_;have arf:bd aZ (some ⟨AN,0,none⟩) [.int .i64 v]:=(Mp.ex (η.drew w)).aO eD λx J⟨y,ag,τ⟩=>by cases J;cases ag;exact b1 _ rfl τ.symm
  refine aT (by omega) (aT (by omega) ?_);refine Pp bY i arf (by simp;omega) (by simp;omega) (by simp[Value.oneCell']) λa8 eN hW=>?_;have Qf:(cW xs++ys).length=n+1:=by rw[fw,p3,Gj];omega
  have Uy:∀A:aY,A.length=n+1->A.take i=cW (xs.take i)->List.take i (List.take (i+1) A++cW (xs.drop i)++List.drop (i+1+(cW (xs.drop i)).length) A)++[Value.int .i64 v]++List.drop (i+[Value.int .i64 v].length) (List.take (i+1) A++cW (xs.drop i)++List.drop (i+1+(cW (xs.drop i)).length) A)=cW (ins xs i v):=by
   intro A cc aoB;have aF:List.drop (i+1+(cW (xs.drop i)).length) A=[]:=sq (by rw[p3,lg];omega);have h1:(List.take (i+1) A).length=i+1:=by rw[hs];omega
   rw[aF,qi,qj (by omega),Ce,sr (by omega),aoB,DT (by simp;omega),sq (by simp;omega)];unfold ins cW;simp
  rw[Uy _ Qf (by rw[qj (by rw[p3];omega)];unfold cW;rw[xA])]at eN
  exact ω.mk ⟨_,c,rfl,eN,(((η.drew w).aO _).gL eD).gL hW,.inl rfl⟩
structure hU where
 hi:Int
 blocks:Int
 free:aq
 head:Int
 used:Int
structure Good(s:hU):Prop where
 hi:6<=s.hi/\s.hi<=24
 blocks:2<=s.blocks/\s.blocks<=16
 Hg:Ew s.free
 free:∀x∈s.free,0<=x/\x<s.hi
 head:-1<=s.head/\s.head<s.hi
 apart:s.head∉s.free
 used:0<=s.used/\s.used<=s.blocks
def full(s:hU):Bool:=decide (s.head<0)||s.used==s.blocks
def room(s:hU)(k:Int):Bool:=decide (k>=0)&&(!full s||decide ((s.free.length:Int)>k))
def kz(s:hU):hU:=if full s then{s with head:=s.free.head?.getD 0,used:=0,free:=s.free.tail}else s
def next(s:hU)(k:Int):hU×Int×Int×Int:=
 if k<0 then(s,1,0,0)else if room s k then({kz s with used:=(kz s).used+1},0,(kz s).head,(kz s).used)else(s,9,0,0)
def place(k:Int)(l:aq):aq:=l.filter (λx=>decide (x<k))++k::l.filter (λx=>!decide (x<k))
def o6(s:hU)(k:Int):hU×Int:=
 if k<0\/s.hi<=k then(s,1)else if k=s.head\/k∈s.free then(s,12)else({s with free:=place k s.free},0)
def C6:hU->aq->Option hU
 |s,[]=>some s
 |s,k::r=>if(o6 s k).2=0 then C6 (o6 s k).1 r else none
def MJ(a b:Int):hU:=⟨a,b,[],-1,0⟩
def may(a b:Int):Bool:=decide (6<=a)&&decide (a<=24)&&decide (2<=b)&&decide (b<=16)
def begun(a b:Int)(l:aq):Option hU:=if may a b then C6 (MJ a b) l else none
theorem af3:∀(l:aq)(a b:Int),Ew l->(∀x∈l,a<=x/\x<b)->a<=b->(l.length:Int)<=b-a
 |[],a,b,_,_,h=>by simp;omega
 |x::r,a,b,φ,ak,h=>by
  have J:=ak x (by simp);have h1:=List.pairwise_cons.1 φ
  have:=af3 r (x+1) b h1.2 (λy ag=>⟨by have:=h1.1 y ag;omega,(ak y (ie _ ag)).2⟩) (by omega)
  simp only[kU];omega
theorem Good.gC{s:hU}(h:Good s):s.free.length<=24:=by
 have:=af3 s.free 0 s.hi h.Hg h.free (by have:=h.hi;omega)
 have:=h.hi
 omega
theorem W4{k:Int}{l:aq}{x:Int}:x∈place k l↔x=k\/x∈l:=by
 unfold place;rw[iC,fB,nN,nN];constructor
 ·rintro(h|h|h)
  ·exact .inr h.1
  ·exact .inl h
  ·exact .inr h.1
 ·rintro(h|h)
  ·exact .inr (.inl h)
  ·by_cases J:x<k
   ·exact .inl ⟨h,by simpa using J⟩
   ·exact .inr (.inr ⟨h,by simpa using J⟩)
theorem atU{k:Int}{l:aq}(h:Ew l)(hk:k∉l):Ew (place k l):=by
 unfold Ew place;rw[List.pairwise_append];refine⟨h.filter _,List.pairwise_cons.2 ⟨λy ag=>?_,h.filter _⟩,λa aR b τ=>?_⟩
 ·obtain⟨h1,ι⟩:=nN.1 ag;have ι:¬y<k:=by simpa using ι
  have:y≠k:=λe=>hk (e▸h1)
  omega
 ·obtain⟨h1,ι⟩:=nN.1 aR;have ι:a<k:=by simpa using ι
  rcases fB.1 τ with rfl|τ
  ·exact ι
  ·obtain⟨aJ,cK⟩:=nN.1 τ;have cK:¬b<k:=by simpa using cK
   omega
theorem arC{l:aq}{i:Nat}{k:Int}(h1:∀x∈l.take i,x<k)(ι:∀x∈l.drop i,k<=x):ins l i k=place k l:=by
 unfold ins place;have aP:l.filter (λx=>decide (x<k))=l.take i:=by
  conv=>lhs;rw[<-Au i l]
  rw[DQ,Rr.2 λx J=>by simpa using h1 x J,RB.2 λx J=>by simpa using ι x J,qi]
 have bM:l.filter (λx=>!decide (x<k))=l.drop i:=by
  conv=>lhs;rw[<-Au i l]
  have aw:(l.take i).filter (λx=>!decide (x<k))=[]:=RB.2 λx J=>by simpa using h1 x J
  have a2:(l.drop i).filter (λx=>!decide (x<k))=l.drop i:=Rr.2 λx J=>by simpa using ι x J
  rw[DQ,aw,a2,uJ]
 rw[aP,bM]
theorem atT(k:Int)(l:aq):(place k l).length=l.length+1:=by
 unfold place;rw[fw,kU]
 induction l with
 |nil=>rfl
 |cons x r cw=>
  rw[List.filter_cons,List.filter_cons];by_cases h:x<k
  ·simp only[h,decide_true,qg,v7,xx,so,kU];omega
  ·simp only[h,decide_false,qg,Ar,xx,so,kU];omega
theorem ace{s:hU}(h:Good s)(k:Int):Good (o6 s k).1:=by
 unfold o6;split
 ·exact h
 ·split
  ·exact h
  ·rename_i h1 ι;have hk:k∉s.free:=λe=>ι (.inr e);refine⟨h.hi,h.blocks,atU h.Hg hk,λx J=>?_,h.head,λe=>?_,h.used⟩
   ·rcases W4.1 J with rfl|J
    ·dsimp only;omega
    ·exact h.free x J
   ·rcases W4.1 e with e|e
    ·exact ι (.inl e.symm)
    ·exact h.apart e
theorem UU{s:hU}(h:Good s){k:Int}(hk:0<=k)(φ:room s k=true)(bm:full s=true):∃x r,s.free=x::r:=by
 cases ak:s.free with
 |nil=>simp[room,bm,ak]at φ;omega
 |cons x r=>exact⟨x,r,rfl⟩
theorem Sw{s:hU}(h:Good s){k:Int}(hk:0<=k)(φ:room s k=true):Good (kz s)/\0<=(kz s).head/\(kz s).used<(kz s).blocks/\(kz s).hi=s.hi/\(kz s).blocks=s.blocks:=by
 unfold kz;cases bm:full s with
 |true=>
  obtain⟨x,r,ak⟩:=UU h hk φ bm;simp only[qg,ak,List.head?_cons,Rn,List.tail_cons];have ku:=h.Hg;rw[ak]at ku;have h1:=List.pairwise_cons.1 ku;have J:=h.free x (by rw[ak];simp);have τ:=h.blocks;refine⟨⟨h.hi,h.blocks,h1.2,λy ag=>h.free y (by rw[ak];exact ie _ ag),by((try dsimp only);omega),λe=>?_,by((try dsimp only);omega)⟩,J.1,by((try dsimp only);omega),by trivial,by trivial⟩
  have:=h1.1 x e
  omega
 |false=>
  simp only[xx,so];unfold full at bm;rw[Rl]at bm;have h1:¬s.head<0:=by simpa using bm.1
  have ι:¬s.used=s.blocks:=by simpa using bm.2
  have:=h.used
  exact⟨h,by omega,by omega,by trivial,by trivial⟩
theorem asD{s:hU}(h:Good s)(k:Int):Good (next s k).1:=by
 unfold next
 split
 ·exact h
 ·split
  ·rename_i hk φ;obtain⟨h1,ι,aJ,cK,dx⟩:=Sw h (by omega) φ;exact⟨h1.hi,h1.blocks,h1.Hg,h1.free,h1.head,h1.apart,by have:=h1.used;dsimp only;omega⟩
  ·exact h
theorem asB{a b:Int}(h:may a b=true):Good (MJ a b):=by simp only[may,lf,qI]at h;exact⟨⟨h.1.1.1,h.1.1.2⟩,⟨h.1.2,h.2⟩,List.Pairwise.nil,λx J=>(by cases J),(by simp[MJ];omega),λe=>(by cases e),(by simp[MJ];omega)⟩
structure A5(w:World)(B ps:Nat)(s:hU)(pf:γ)(c:Nat):Prop where
 cell:μ w B u3 5 (some ⟨ps,0,none⟩) 1 1 [.int .i64 s.hi,.int .i64 s.blocks,.slice pf s.free.length c,.int .i64 s.head,.int .i64 s.used]
 fr:μ w B 3 1 pf s.free.length c (cW s.free)
def KM(ps:Nat)(pf:γ)(i:Nat):Prop:=i=ps\/∃x,pf=some x/\x.block=i
def mr(w:World)(B ps:Nat)(s:hU)(D:bl):Prop:=∃pf c,A5 w B ps s pf c/\∀i,D i↔KM ps pf i
theorem A5.aO{w w':World}{S:bl}{B ps:Nat}{s:hU}{pf:γ}{c:Nat}(h:A5 w B ps s pf c)(hk:Kp w w' S)(ab:∀i,KM ps pf i->¬S i):A5 w' B ps s pf c:=
 ⟨h.cell.aO hk λx J=>by cases J;exact ab _ (.inl rfl),h.fr.aO hk λx J=>ab _ (.inr ⟨x,J,rfl⟩)⟩
theorem A5.ex{w w':World}{B ps:Nat}{s:hU}{pf:γ}{c:Nat}(h:A5 w B ps s pf c)(hk:η w w'):A5 w' B ps s pf c:=h.aO hk λ_ _ h=>h
theorem mr.typed{w:World}{B ps:Nat}{s:hU}{D:bl}(h:mr w B ps s D){i:Nat}(I:D i):(Typed w u3 i\/Typed w 3 i)/\B<=i/\i<w.heap.size:=by
 obtain⟨pf,c,h,cn⟩:=h;rcases(cn i).1 I with rfl|⟨x,J,rfl⟩
 ·exact⟨.inl (h.cell.typed rfl).1,(h.cell.typed rfl).2⟩
 ·exact⟨.inr (h.fr.typed J).1,(h.fr.typed J).2⟩
theorem mr.aO{w w':World}{S:bl}{B ps:Nat}{s:hU}{D:bl}(h:mr w B ps s D)(hk:Kp w w' S)(ab:∀i,D i->¬S i):mr w' B ps s D:=by obtain⟨pf,c,h,cn⟩:=h;exact⟨pf,c,h.aO hk λi I=>ab i ((cn i).2 I),cn⟩
theorem mr.ex{w w':World}{B ps:Nat}{s:hU}{D:bl}(h:mr w B ps s D)(hk:η w w'):mr w' B ps s D:=h.aO hk λ_ _ h=>h
def Im(w:World)(B ps:Nat)(s:hU)(D:bl)(w':World):Prop:=∃bk,mr w' B ps s bk/\Kp w w' D/\∀i,bk i->D i\/w.heap.size<=i
theorem acg{w:World}{B ps:Nat}{s:hU}{D:bl}(h:mr w B ps s D):HK.C (some ⟨ps,0,none⟩) w (ω λv w'=>v=.bool (full s)/\η w w'):=by
 apply HK.ok;unfold HK.main;obtain⟨pf,c,h,cn⟩:=h
 try dsimp only[bo]
 simp only[dG];refine⟨_,h.cell.at (j:=3) rfl,bt (λπ aV=>?_) (λπ=>?_)⟩
 ·exact ω.mk ⟨by unfold full;rw[π];rfl,η.drewN _ _⟩
 ·refine⟨_,h.cell.at (j:=4) rfl,_,h.cell.at (j:=1) rfl,λaV=>?_⟩;exact ω.mk ⟨by unfold full;rw[π];rfl,η.drewN _ _⟩
theorem ZS{w:World}{B ps:Nat}{s:hU}{D:bl}(h:mr w B ps s D)(k:Int):HJ.C (some ⟨ps,0,none⟩) k w (ω λv w'=>v=.bool (room s k)/\η w w'):=by
 apply HJ.ok;unfold HJ.main;rw[cond_pos (by rfl)]
 try dsimp only[bo]
 unfold room;refine bt (λhk=>?_) (λhk=>?_)
 ·rw[hk];refine κ.use (acg h) ?_;rintro _ ε ⟨rfl,θ⟩
  try dsimp only[dX]
  obtain⟨pf,c,h,cn⟩:=h.ex θ;cases bm:full s with
  |false=>
   rw[cond_pos (by rfl)];exact ω.mk ⟨by simp,θ⟩
  |true=>
   rw[cond_neg (by rfl)];simp only[dG];refine⟨_,_,_,h.cell.at (j:=2) rfl,?_⟩;exact ω.mk ⟨by simp,θ⟩
 ·rw[hk];exact ω.mk ⟨rfl,η.refl w⟩
theorem ZC{w:World}{B ps:Nat}{s:hU}{D:bl}(h:mr w B ps s D)(bH:Good s):HI.C (some ⟨ps,0,none⟩) w (ω λv w'=>η w w'/\∃p c,v=.tuple #[.slice p s.free.length c,.int .i64 s.head]/\μ w' w.heap.size 3 1 p s.free.length c (cW s.free)):=by
 apply HI.ok;unfold HI.main;have yn:=η.drew w;obtain⟨pf,c,h,cn⟩:=h.ex yn
 try dsimp only[nD,bo,jz]
 simp only[dG];have LY:=bH.gC;refine⟨_,_,_,h.cell.at (j:=2) rfl,_,h.cell.at (j:=3) rfl,?_⟩;refine κ.use (KC pf s.free.length c (cW s.free) w.drew h.fr.cells (p3 _) (by omega) (QB _)) ?_;rintro _ ε ⟨b5,aW,rfl,θ,σ⟩
 try dsimp only[ee]
 exact⟨(h.cell.ex θ).at (j:=3) rfl,ω.mk ⟨yn.trans θ,b5,aW,rfl,σ⟩⟩
theorem OE(n:Int)(w:World):zA.C n w (ω λv w'=>v=.bool (decide (n>=1)&&decide (n<=16))/\w'=w):=by
 apply zA.ok;unfold zA.main;refine bt (λπ=>?_) (λπ=>?_)
 ·exact ω.mk ⟨by rw[π];rfl,rfl⟩
 ·exact ω.mk ⟨by rw[π];rfl,rfl⟩
theorem Tm{h u b:Int}(w:World)(ea:0<=h/\h<24)(τ:2<=b/\b<=16)(hu:0<=u/\u<b):zy.C (h*b+u) b w (ω λv w'=>v=.tuple #[.complex .f64 (cH h) (cH u),.int .i64 0]/\η w w'):=by
 apply zy.ok;unfold zy.main;refine κ.use (OE b w) ?_;rintro _ ε ⟨rfl,rfl⟩
 try dsimp only[dX]
 rw[cond_neg (by simp;omega)];have aF:0<=h*b:=yZ ea.1 (by omega);have h1:h*b<=23*b:=JP (by omega) (by omega);have ah:(h*b+u)/b=h:=by rw[Int.add_comm,X3 _ _ (by omega),Nk hu.1 hu.2,Int.zero_add]
 have hm:(h*b+u)%b=u:=by rw[Int.add_comm,Int.add_mul_emod_self_right];exact G5 hu.1 hu.2
 rw[jl (by omega),bS (x:=24*b) (by omega) (by omega),jl (by omega)];refine aT (by omega) (aT (by omega) λaV=>?_);rw[Rx (by omega),xD (by omega),ah,hm,bS (by omega) (by omega)];exact ω.mk ⟨rfl,η.drewN _ _⟩
theorem ZP{w:World}{B ps:Nat}{s:hU}{pf:γ}{c:Nat}(h:A5 w B ps s pf c)(bH:Good s)(aF:0<=s.head)(hu:s.used<s.blocks){S:Value->al}
  (eU:∀w',A5 w' B ps {s with used:=s.used+1} pf c->Kp w w' (λi=>i=ps)->S (.tuple #[.complex .f64 (cH s.head) (cH s.used),.int .i64 0]) w'):qS.bK (some ⟨ps,0,none⟩) w (ω S):=by
 unfold qS.bK;have yn:=η.drew w;have h:=h.ex yn;have τ:=bH.blocks;have ab:=bH.hi;have ea:=bH.head;have Wl:=bH.used;have BB:0<=s.head*s.blocks:=yZ aF (by omega);have zZ:s.head*s.blocks<=23*s.blocks:=JP (by omega) (by omega)
 try dsimp only[bo]
 simp only[dG];refine⟨_,h.cell.at (j:=3) rfl,_,h.cell.at (j:=1) rfl,_,h.cell.at (j:=4) rfl,_,h.cell.at (j:=1) rfl,?_⟩;rw[bS (x:=s.head*s.blocks) (by omega) (by omega),bS (x:=s.head*s.blocks+s.used) (by omega) (by omega)];refine κ.use (Tm w.drew ⟨aF,by omega⟩ τ ⟨Wl.1,hu⟩) ?_;rintro _ ε ⟨rfl,θ⟩
 try dsimp only[ca,cT,cU,bo,bL,sV]
 have h1:=h.ex θ;refine⟨_,h1.cell.at (j:=4) rfl,?_⟩;rw[bS (x:=s.used+1) (by omega) (by omega)];refine h1.cell.dv (j:=4) (by show 4<1*5;omega) rfl λυ bK af=>?_;have t57:∀i,i=ps->Typed ε u3 i:=λi I=>I▸(h1.cell.typed rfl).1;exact ω.mk (eU υ ⟨af,h1.fr.cV bK u3 t57 (by decide)⟩ (((yn.trans θ).aO _).gL bK))
theorem akL{w:World}{B ps:Nat}{s:hU}{D:bl}(h:mr w B ps s D)(bH:Good s)(eh:B<=w.heap.size)(k:Int):qS.C (some ⟨ps,0,none⟩) k w (ω λv w'=>v=.tuple #[.complex .f64 (cH (next s k).2.2.1) (cH (next s k).2.2.2),.int .i64 (next s k).2.1]/\Im w B ps (next s k).1 D w'):=by
 apply qS.ok;unfold qS.main
 try dsimp only[nD,jz]
 have same:∀w',η w w'->Im w B ps s D w':=λw' x=>⟨D,h.ex x,x.aO _,λi I=>.inl I⟩;unfold qS.aV next
 refine bt (λhk=>?_) (λhk=>?_)
 ·have hk:=b6 hk;rw[aN hk];exact ω.mk ⟨by simp only[yc],same _ (η.refl w)⟩
 have hk:=dn hk;rw[aL hk];refine κ.use (ZS h k) ?_;rintro _ ε ⟨rfl,θ⟩
 try dsimp only[bo,dX]
 cases φ:room s k with
 |false=>
  rw[aL (by decide),cond_pos (by rfl)];exact ω.mk ⟨by simp only[yc],same _ θ⟩
 |true=>
  rw[aN rfl,cond_neg (by rfl)];obtain⟨g1,g2,g3,g4,g5⟩:=Sw bH (by omega) φ;refine κ.use (acg (h.ex θ)) ?_;rintro _ υ ⟨rfl,ρ⟩
  try dsimp only[dX]
  have df:=θ.trans ρ;cases bm:full s with
  |false=>
   try dsimp only[jz]
   have aS:kz s=s:=by unfold kz;rw[bm,aL (by decide)]
   rw[aS]at g1 g2 g3⊢;obtain⟨pf,c,ι,cn⟩:=h.ex df;refine ZP ι g1 g2 g3 λχ aJ b4=>⟨rfl,D,⟨pf,c,aJ,cn⟩,(df.aO _).gL (b4.mono λi _ I=>(cn i).2 (.inl I)),λi I=>.inl I⟩
  |true=>
   try dsimp only[C0]
   obtain⟨x,r,ak⟩:=UU bH (by omega) φ bm;have aS:kz s={s with head:=x,used:=0,free:=r}:=by unfold kz;rw[bm,aN rfl,ak];rfl
   rw[aS]at g1 g2 g3⊢;have yn:=η.drew υ;have gb:=df.trans yn;obtain⟨pf,c,aJ,cn⟩:=h.ex gb;generalize υ.drew=χ at aJ gb⊢;obtain⟨a,rfl,LQ⟩:=aJ.fr.cells.one (v:=.int .i64 x) (by rw[ak];rfl);have hlen:s.free.length=r.length+1:=by rw[ak];rfl
   have LY:=bH.gC;simp only[dG];refine⟨_,_,_,aJ.cell.at (j:=2) rfl,aT (by omega) ⟨x,LQ,_,_,_,aJ.cell.at (j:=2) rfl,aT (by omega) ?_⟩⟩;have Gc:bd χ (dL (some a) c 1 1) (cW r):=by
    have azQ:=aJ.fr.2.1
    have:=aJ.fr.cells.slice c 1 r.length (by rw[p3];omega)
    rw[ak]at this;unfold cW at this⊢;rw[yW,List.drop_succ_cons,RA,hR (by simp)]at this;exact this
   refine κ.use (KC _ (s.free.length-1) (c-1) (cW r) χ Gc (by rw[p3];omega) (by omega) (QB _)) ?_;rintro _ ao ⟨eo,h0,rfl,aC,cJ⟩
   try dsimp only[ee]
   have cK:=aJ.ex aC;refine⟨Kp.cell aC LQ (λh=>h),cK.cell.at (j:=2) rfl,?_⟩;refine cK.cell.dv (j:=3) (by show 3<1*5;omega) rfl λan dT cB=>?_;refine cB.dv (j:=4) (by show 4<1*5;omega) rfl λaZ eD bY=>?_;refine bY.dv (j:=2) (by show 2<1*5;omega) rfl λa8 hW eN=>?_;have vf:Kp ao a8 λi=>i=ps:=(dT.gL eD).gL hW;have t57:∀i,i=ps->Typed ao u3 i:=λi I=>I▸(cK.cell.typed rfl).1;have GA:=(cJ.lower (gE eh gb.size)).cV vf u3 t57 (by decide);rw[show s.free.length-1=r.length by omega]at eN GA;have aky:Kp w a8 D:=((gb.trans aC).aO _).gL (vf.mono λi _ I=>(cn i).2 (.inl I));refine ZP (s:={s with head:=x,used:=0,free:=r}) (pf:=eo) (c:=h0) ⟨eN,GA⟩ g1 g2 g3 λbV dD fO=>⟨rfl,KM ps eo,⟨eo,h0,dD,λi=>og⟩,aky.gL (fO.mono λi _ I=>(cn i).2 (.inl I)),λi I=>?_⟩;rcases I with I|⟨y,ag,I⟩
   ·exact .inl ((cn i).2 (.inl I))
   ·have:=(cJ.typed ag).2.1
    have:=gb.size
    exact .inr (by omega)
theorem ZB{w:World}{B ps:Nat}{s:hU}{D:bl}(h:mr w B ps s D)(bH:Good s)(eh:B<=w.heap.size)(k:Int):tA.C (some ⟨ps,0,none⟩) k w (ω λv w'=>v=.int .i64 (o6 s k).2/\Im w B ps (o6 s k).1 D w'):=by
 apply tA.ok;unfold tA.main
 try dsimp only[nD,bo,jz]
 have same:∀w',η w w'->Im w B ps s D w':=λw' x=>⟨D,h.ex x,x.aO _,λi I=>.inl I⟩;have bad:(k<0\/s.hi<=k)->tA.aV (some ⟨ps,0,none⟩) k true w (ω λv w'=>v=.int .i64 (o6 s k).2/\Im w B ps (o6 s k).1 D w'):=λhk=>by
  unfold tA.aV o6
  try dsimp only[bo,C0]
  rw[aN hk];exact ω.mk ⟨rfl,same _ (η.refl w)⟩
 obtain⟨pf,c,h1,cn⟩:=h;have h:mr w B ps s D:=⟨pf,c,h1,cn⟩;refine bt (λhk=>bad (.inl (b6 hk))) (λhk=>?_);have hk:=dn hk;refine⟨_,h1.cell.at (j:=0) rfl,?_⟩;by_cases oD:k>=s.hi
 ·rw[bI oD];exact bad (.inr oD)
 rw[iX oD];have oD:¬(k<0\/s.hi<=k):=by omega
 unfold tA.aV o6;rw[aL oD]
 try dsimp only[bo,jz]
 simp only[dG];refine⟨_,h1.cell.at (j:=3) rfl,bt (λea=>?_) (λea=>?_)⟩
 ·have ea:k=s.head:=by simpa using ea
  rw[aN (.inl ea)];exact ω.mk ⟨rfl,same _ (η.refl w)⟩
 have ea:¬k=s.head:=by simpa using ea
 have LY:=bH.gC;refine⟨_,_,_,h1.cell.at (j:=2) rfl,?_⟩;refine κ.use (Zp h1.fr.cells rfl (by omega) k) ?_;rintro _ υ ⟨rfl,ρ⟩
 try dsimp only[dX]
 refine bt (λπ=>?_) (λπ=>?_)
 ·rw[aN (.inr ((P1 _ _).1 π))];exact ω.mk ⟨rfl,same _ ρ⟩
 have π:k∉s.free:=λe=>by rw[(P1 _ _).2 e]at π;cases π
 rw[aL (by rintro(e|e);exact ea e;exact π e)];have ι:=h1.ex ρ;refine⟨_,_,_,ι.cell.at (j:=2) rfl,?_⟩;refine κ.use (ak3 ι.fr.cells rfl (by omega) bH.Hg k) ?_;rintro _ χ ⟨rfl,i,f,rfl,I,qD,Qd⟩
 try dsimp only[ca,cT,cU,bo,dX,bL]
 refine⟨_,_,_,ι.cell.at (j:=2) rfl,?_⟩;rintro aa ao rfl rfl;have az:(χ.alloc (.cells #[.int .i64 k] 3)).heap[χ.heap.size]?=some (.cells #[.int .i64 k] 3):=FY χ _;have aC:=η.alloc χ (.cells #[.int .i64 k] 3);generalize χ.alloc (.cells #[.int .i64 k] 3)=ao at az aC⊢;have cK:=ι.ex aC;refine κ.use (akr cK.fr (gE eh (ρ.trans aC).size) (by omega) I az (λx J=>by have:=(ι.fr.typed J).2.2;omega)) ?_;rintro _ an ⟨gp,jk,rfl,cB,dT,aqB⟩
 try dsimp only[ee]
 have t3:∀i,(∃x,pf=some x/\x.block=i)->Typed ao 3 i:=λi⟨x,J,I⟩=>I▸(cK.fr.typed J).1;have abg:=cK.cell.cV dT 3 t3 (by decide);rw[arC qD Qd]at cB;refine abg.dv (j:=2) (by show 2<1*5;omega) rfl λaZ eD bY=>?_;have t57:∀i,i=ps->Typed an u3 i:=λi I=>I▸(abg.typed rfl).1;have vJ:=atT k s.free;have cB:=cB.cV eD u3 t57 (by decide);rw[<-vJ]at cB bY;refine ω.mk ⟨rfl,KM ps gp,⟨gp,jk,⟨bY,cB⟩,λi=>og⟩,(((ρ.trans aC).aO _).gL (dT.mono λi _ I=>(cn i).2 (.inr I))).gL (eD.mono λi _ I=>(cn i).2 (.inl I)),λi I=>?_⟩;rcases I with I|⟨y,ag,I⟩
 ·exact .inl ((cn i).2 (.inl I))
 ·rcases aqB with e|e
  ·exact .inl ((cn i).2 (.inr ⟨y,by rw[<-e];exact ag,I⟩))
  ·have:=e y ag
   have:=(ρ.trans aC).size
   exact .inr (by omega)
theorem CB(a b:Int)(w:World):Ao.C a b w (ω λv w'=>v=.int .i64 (if may a b then 0 else 1)/\η w w'):=by
 apply Ao.ok;unfold Ao.main;rintro δ ε rfl rfl;have σ:=μ.new (w:=w) [.int .i64 a,.int .i64 b] b2;have θ:=η.alloc w (.cells #[.int .i64 a,.int .i64 b] b2);have bad:may a b=false->ω (λv w'=>v=.int .i64 (if may a b then 0 else 1)/\η w w') (.returned (.int .i64 1)) (w.alloc (.cells #[.int .i64 a,.int .i64 b] b2)):=λh=>ω.mk ⟨by rw[h];rfl,θ⟩;refine⟨_,σ.at (j:=0) rfl,bt (λh=>bad ?_) (λh=>⟨_,σ.at (j:=0) rfl,bt (λι=>bad ?_) (λι=>⟨_,σ.at (j:=1) rfl,bt (λaJ=>bad ?_) (λaJ=>⟨_,σ.at (j:=1) rfl,bt (λcK=>bad ?_) (λcK=>?_)⟩)⟩)⟩)⟩
 ·have:=b6 h;simp[may];omega
 ·have:=b6 ι;simp[may];omega
 ·have:=b6 aJ;simp[may];omega
 ·have:=b6 cK;simp[may];omega
 ·have h:=dn h;have ι:=dn ι;have aJ:=dn aJ;have cK:=dn cK;have hm:may a b=true:=by simp[may];omega
  exact ω.mk ⟨by rw[hm];rfl,θ⟩
theorem aoj(s:hU)(k:Int)(r:aq):C6 s (k::r)=if(o6 s k).2=0 then C6 (o6 s k).1 r else none:=rfl
theorem akK{B ζ:Nat}{w0:World}{p:γ}{n c:Nat}{xs:aq}(ak:bd w0 p (cW xs))(ar:xs.length=n)(τ:n<=100000000000000000){J5:hU}(Qb:Good J5){w:World}{eC:bl}(aan:η w0 w)(eh:w0.heap.size<=B)(FM:B<=w.heap.size)(aF:mr w B ζ J5 eC){S:Value->al}
  (zN:∀w',C6 J5 xs=none->η w0 w'->S (.tuple #[.pointer none,.int .i64 1]) w')(dJ:∀w' s D,C6 J5 xs=some s->Good s->mr w' B ζ s D->η w0 w'->S (.tuple #[.pointer (some ⟨ζ,0,none⟩),.int .i64 0]) w'):
  u2.bb ζ p n c (n:Int) 0 w (ω S):=by
 refine⟨λt7 q m k t20 t21 w'=>t7=ζ/\p=q/\n=m/\c=k/\t20=(n:Int)/\0<=t21/\t21<=(n:Int)/\η w0 w'/\B<=w'.heap.size/\∃s D,Good s/\mr w' B ζ s D/\C6 s (xs.drop t21.toNat)=C6 J5 xs,λt7 q m k t20 t21 w'=>((n:Int)-t21).toNat,?_,?_⟩
 ·exact⟨rfl,rfl,rfl,rfl,rfl,by omega,by omega,aan,FM,J5,eC,Qb,aF,rfl⟩
 clear aF aan FM;rintro _ _ _ _ _ t ε ⟨rfl,rfl,rfl,rfl,rfl,aq3,tc,qz,Db,s,D,bH,h,ew⟩;unfold u2.δ;refine bt (λπ=>?_) (λπ=>?_)
 ·have π:=b6 π;obtain⟨x,J,_,P9⟩:=pU (l:=xs) (i:=t.toNat) (by omega);obtain⟨a,rfl,LQ⟩:=(ak.ex qz).many (j:=t.toNat) (vO J);rw[<-eS t.toNat]at LQ;refine aT aq3 (aT π ⟨x,LQ,?_⟩);rw[P9]at ew;rw[aoj]at ew;refine κ.use (ZB h bH Db x) ?_;rintro _ υ ⟨rfl,gO,ι,bK,U9⟩
  try dsimp only[bL]
  have ft:η w0 υ:=qz.then bK λi I=>gE eh (h.typed I).2.1;refine bt (λhe=>?_) (λhe=>?_)
  ·have he:¬(o6 s x).2=0:=by simpa using he
   rw[aL he]at ew;exact ω.mk (zN υ ew.symm ft)
  ·have he:(o6 s x).2=0:=by simpa using he
   rw[aN he]at ew;rw[bS (by omega) (by omega)];refine⟨⟨rfl,rfl,rfl,rfl,rfl,by omega,by omega,ft,gE Db bK.size,_,gO,ace bH x,ι,?_⟩,by((try dsimp only);omega)⟩;rw[show(t+1).toNat=t.toNat+1 by omega];exact ew
 ·have π:=dn π;rw[sq (by omega)]at ew;exact ω.mk (dJ ε s D ew.symm bH h qz)
theorem A3(a b:Int){p:γ}{n c:Nat}{xs:aq}(w:World)(ak:bd w p (cW xs))(ar:xs.length=n)(τ:n<=100000000000000000):
  u2.C a b p n c w (ω λv w'=>η w w'/\match begun a b xs with|none=>v=.tuple #[.pointer none,.int .i64 1]|some s=>∃ps,v=.tuple #[.pointer (some ⟨ps,0,none⟩),.int .i64 0]/\Good s/\∃D,mr w' w.heap.size ps s D):=by
 apply u2.ok;unfold u2.main;rintro δ ε rfl rfl;have σ:=μ.new (w:=w) [.int .i64 a,.int .i64 b] b2;have θ:=η.alloc w (.cells #[.int .i64 a,.int .i64 b] b2);generalize w.alloc (.cells #[.int .i64 a,.int .i64 b] b2)=ε at σ θ⊢;refine⟨#[.int .i64 a,.int .i64 b],rfl,σ.cells,?_⟩;refine κ.use (CB a b ε) ?_;rintro _ υ ⟨rfl,ρ⟩
 try dsimp only[bL]
 have df:=θ.trans ρ;unfold begun;cases hm:may a b with
 |false=>
  simp only[xx,so];rw[cond_pos (by decide)];exact ω.mk ⟨df,rfl⟩
 |true=>
  simp only[qg];rw[cond_neg (by decide)];refine⟨#[.int .i64 a,.int .i64 b],rfl,(σ.ex ρ).cells,?_⟩;have VK:Instr.fill (λi=>[(0,2),(2,1),(3,1),(4,1)].toArray[i]?) #[(Value.int .i64 0),(Value.int .i64 0),(Value.slice none 0 0),(Value.int .i64 0),(Value.int .i64 0)] [(0,(Value.agg #[.int .i64 a,.int .i64 b])),(2,(Value.int .i64 (-1)))]=some #[.int .i64 a,.int .i64 b,.slice none 0 0,.int .i64 (-1),.int .i64 0]:=by rfl
  refine hh VK ?_;rintro ζ ao rfl rfl;have cJ:=μ.new (w:=υ) [.int .i64 a,.int .i64 b,.slice none 0 0,.int .i64 (-1),.int .i64 0] u3;have aC:=η.alloc υ (.cells #[.int .i64 a,.int .i64 b,.slice none 0 0,.int .i64 (-1),.int .i64 0] u3);have ab:mr (υ.alloc (.cells #[.int .i64 a,.int .i64 b,.slice none 0 0,.int .i64 (-1),.int .i64 0] u3)) w.heap.size υ.heap.size (MJ a b) (KM υ.heap.size none):=⟨none,0,⟨cJ.lower df.size,μ.nil _ _ _ _⟩,λi=>og⟩;generalize υ.alloc (.cells #[.int .i64 a,.int .i64 b,.slice none 0 0,.int .i64 (-1),.int .i64 0] u3)=ao at ab aC⊢;have iF:=df.trans aC;refine akK ak ar τ (asB hm) iF (dO _) iF.size ab (λw' bm X=>?_) (λw' s D bm bH h X=>?_)
  ·refine⟨X,?_⟩;rw[bm]
  ·refine⟨X,?_⟩;rw[bm];exact⟨_,rfl,bH,D,h⟩
end Go.Proofs.YtcpdfhkhaekekaaGreat.G.bA
namespace Go.Proofs.YtcpdfhkhaekekaaGreat.G.cF
open Go.bJ Go.RowKit
def iz(n:Nat)(V:List (Nat×Nat)):aq:=(List.range n).map λi=>((V.filter λx=>x.1==i).length:Int)
theorem Fa(n:Nat)(V:List (Nat×Nat)):(iz n V).length=n:=by simp[iz]
theorem ID{n:Nat}(V:List (Nat×Nat)){i:Nat}(I:i<n):(iz n V)[i]?=some ((V.filter λx=>x.1==i).length:Int):=by simp[iz,I]
theorem amG{n:Nat}(V:List (Nat×Nat))(x:Nat×Nat)(J:x.1<n):(iz n V).set x.1 (((V.filter λy=>y.1==x.1).length:Int)+1)=iz n (V++[x]):=by
 apply rL;intro i;rw[List.getElem?_set];by_cases I:i<n
 ·rw[ID _ I,ID _ I,DQ,fw];by_cases h:x.1=i
  ·subst h;rw[aN rfl,aN (by rw[Fa];exact I)];simp
  ·rw[aL h];simp[h]
 ·rw[aL (by omega),List.getElem?_eq_none (by rw[Fa];omega),List.getElem?_eq_none (by rw[Fa];omega)]
theorem ayn{s k:Int}{R:bZ}(h:Ey s k R){x:Nat×Nat}(J:x∈used R):(x.1:Int)<s:=by
 have:=(Xw (s:=s) (k:=k)).1 h.2.2 x J
 unfold Ji at this;simp at this;by_cases h1:(x.1:Int)<s
 ·exact h1
 ·have h1:s<=(x.1:Int):=by omega
  have hk:2<=k:=by have:=h.1;unfold may at this;simp at this;omega
  have:=JP h1 (show 0<=k by omega)
  omega
theorem arx(n:Nat)(w:World):w.alloc (.cells (madeCells #[Value.int .i64 0] (n*1)) cz)=w.alloc (.cells ((List.replicate n (0:Int)).map (Value.int .i64)).toArray cz):=by
 congr 2;rw[eS];apply rM;apply List.ext_getElem
 ·simp[madeCells]
 ·intro i h1 ι;simp[madeCells,Nat.mod_one]
theorem amH(n:Nat):iz n []=List.replicate n 0:=by
 apply rL;intro i;by_cases I:i<n
 ·rw[ID _ I,List.getElem?_replicate,aN I];rfl
 ·rw[List.getElem?_eq_none (by rw[Fa];omega),List.getElem?_eq_none (by simp;omega)]
theorem Zq{w:World}{R:bZ}{ps:aY}(h:iE w R ps){s k:Int}(hw:Ey s k R)(π:(gK (used R)).length<=4096):tY.C (bT R ps).toArray s k w (ω λv w'=>∃q d,v=.tuple #[.slice q s.toNat d,.int .i64 0]/\η w w'/\μ w' w.heap.size cz 1 q s.toNat d (bA.cW (iz s.toNat (lays (used R))))):=by
 have Wg:6<=s/\s<=24:=by have:=hw.1;unfold may at this;simp at this;omega
 obtain⟨n,rfl⟩:=eF (show 0<=s by omega);apply tY.ok;unfold tY.main;rintro δ ε rfl rfl ζ υ rfl rfl;have σ:=μ.new (w:=w) (bT R ps) b3;have θ:=η.alloc w (.cells (bT R ps).toArray b3);generalize w.alloc (.cells (bT R ps).toArray b3)=ε at σ θ⊢;have af:=μ.new (w:=ε) [.int .i64 (n:Int),.int .i64 k] b2;have ρ:=η.alloc ε (.cells #[.int .i64 (n:Int),.int .i64 k] b2);generalize ε.alloc (.cells #[.int .i64 (n:Int),.int .i64 k] b2)=υ at af ρ⊢;have σ:=σ.ex ρ;have ft:=θ.trans ρ;have o7:(bT R ps).toArray.size=24:=by simp[bT,BP,h.len,h.dN]
 refine⟨(bT R ps).toArray,o7,σ.cells,#[.int .i64 (n:Int),.int .i64 k],rfl,af.cells,?_⟩;refine κ.use (Tz (h.ex ft) (n:Int) k) ?_;rintro _ χ ⟨⟨e,rfl,he⟩,ad⟩;obtain rfl:=he.2 hw
 try dsimp only[bL]
 rw[cond_neg (by decide)];have σ:=σ.ex ad;have af:=af.ex ad;have ha:=ft.trans ad;refine⟨(n:Int),af.at (j:=0) rfl,bU (bI (by omega)) (bU (bI (by omega)) (bU (bI (by omega)) ?_))⟩;rw[ch];rintro ax an rfl rfl;rw[arx];have bh:=μ.alloc (w:=χ) ((List.replicate n (0:Int)).map (Value.int .i64)) cz 1 n (by simp);have ay:=η.alloc χ (.cells ((List.replicate n (0:Int)).map (Value.int .i64)).toArray cz);have jm:w.heap.size<=χ.heap.size:=ha.size;generalize χ.alloc (.cells ((List.replicate n (0:Int)).map (Value.int .i64)).toArray cz)=an at bh ay⊢;generalize χ.heap.size=ax at bh jm⊢;have nW:=ha.trans ay;have lY:ax<an.heap.size:=(bh.ge rfl).2;refine⟨(bT R ps).toArray,o7,(σ.ex ay).cells,?_⟩;refine κ.use (ZQ (h.ex nW) hw.2.1 π) ?_;rintro _ aZ ⟨q,d,fp,bu,c2,rfl,aM,bY⟩
 try dsimp only[ca,cT,cU,n1,bo,bL,ee]
 have k4:=nW.trans aM;have bh:=(bh.ex aM).lower (B':=w.heap.size) jm;have Di:∀x∈lays (used R),(x.1:Int)<n/\hg x:=λx J=>by have hu:=(Js (sB h.ok)).1 J;exact⟨ayn hw hu,sB h.ok x hu⟩
 rw[show((List.replicate n (0:Int)).map (Value.int .i64))=bA.cW (iz n [])by rw[amH];rfl]at bh;have aqc:(lays (used R)).length<=4096:=by rw[<-MD (λx=>kv (used R) x),Jl (λx J=>sB h.ok x ((kv _ _).1 J)) (xk _)];exact π
 generalize lays (used R)=V at bY Di aqc⊢;have azb:an.heap.size<=aZ.heap.size:=aM.size;unfold tY.bb;refine⟨λoO oq qo AB AA D6 t29 t30 w'=>some ⟨ax,0,none⟩=oO/\n=oq/\n=qo/\q=AB/\V.length=AA/\(V.length:Int)=t29/\0<=t30/\t30<=V.length/\η w w'/\μ w' w.heap.size cz 1 (some ⟨ax,0,none⟩) n n (bA.cW (iz n (V.take t30.toNat)))/\μ w' an.heap.size eT 1 q V.length d (dN V),
  λ_ _ _ _ _ _ _ t30 _=>(V.length-t30).toNat,⟨rfl,rfl,rfl,rfl,rfl,rfl,by omega,by omega,k4,bh,bY⟩,?_⟩
 clear bh bY k4;rintro _ _ _ _ _ D6 _ t30 w' ⟨rfl,rfl,rfl,rfl,rfl,rfl,aF,h1,J,bh,bY⟩;unfold tY.δ;obtain⟨j,rfl⟩:=eF aF;rw[ch]at bh;refine bt (λψ=>?_) (λψ=>?_)
 ·have ψ:=b6 ψ;have ff:j<V.length:=by omega
  obtain⟨bQ,dJ⟩:=Di _ (hP ff);have aP:(dN V)[j]?=some (et (some V[j])):=by unfold dN;rw[List.getElem?_map,List.getElem?_eq_getElem ff];rfl
  obtain⟨a,aR,r⟩:=bY.cells.many aP;refine bU (bI aF) (bU (bI ψ) ?_);refine hh aR ⟨eX (some V[j]),e5 (some V[j]),by rw[ch,eS];exact r,?_⟩;refine hh (DF (n:=V[j].1) (by have:=dJ.1;omega)).2.2.2.1 (bU (bI (by rw[Jh];omega)) (bU (bI (by rw[yx];omega)) (bU (bI (by omega)) (bU (bI bQ) ?_))))
  try dsimp only[bo]
  have pV:(⟨ax,0,none⟩:Addr).add (((V[j].1:Nat):Int).toNat*1)=⟨ax,V[j].1,none⟩:=by rw[Addr.add_lit,ch];simp
  rw[pV];have se:V[j].1<n:=by omega
  refine⟨_,bh.at (bA.vO (ID _ se)),bU (bI (by omega)) (bU (bI bQ) ?_)⟩;have hle:((V.take j).filter λx=>x.1==V[j].1).length<=4096:=gE (X0 _ _) (by rw[hs];omega);rw[bS (x:=(((V.take j).filter λx=>x.1==V[j].1).length:Int)+1) (by omega) (by omega)];refine bh.dv (j:=V[j].1) (by omega) rfl λbV fO e4=>?_;have kF:(bA.cW (iz n (V.take j))).set V[j].1 (.int .i64 ((((V.take j).filter λx=>x.1==V[j].1).length:Int)+1))=bA.cW (iz n (V.take (j+1))):=by unfold bA.cW;rw[<-rK,amG _ _ se,mb ff]
  rw[bS (x:=(j:Int)+1) (by omega) (by omega)];refine⟨⟨rfl,rfl,rfl,rfl,rfl,rfl,by omega,by omega,J.then fO λi I=>by rw[I];exact(bh.ge rfl).1,?_,?_⟩,by((try dsimp only);omega)⟩
  ·show μ bV _ _ _ _ _ _ (bA.cW (iz n (V.take (j+1))));rw[<-kF];exact e4
  ·exact bY.aO fO λx J I=>by have:=(bY.ge J).1;omega
 ·have ψ:=dn ψ
  have:V.take j=V:=hR (by omega)
  rw[this]at bh;exact ω.mk ⟨some ⟨ax,0,none⟩,n,rfl,J,bh⟩
def BL(V:List (Nat×Nat))(but:aq)(i:Nat):Bool:=((V.filter λx=>x.1==i).length==0)&&!bA.has but (i:Int)
def k6(n:Nat)(V:List (Nat×Nat))(but:aq):aq:=((List.range n).filter (BL V but)).map λ(i:Nat)=>(i:Int)
theorem acf(n:Nat)(V:List (Nat×Nat))(but:aq):k6 (n+1) V but=k6 n V but++if BL V but n then[(n:Int)]else[]:=by
 unfold k6;rw[v8,DQ,ss];congr 1;by_cases h:BL V but n=true
 ·simp[h]
 ·simp[h]
theorem UT(n:Nat)(V:List (Nat×Nat))(but:aq):(k6 n V but).length<=n:=by unfold k6;rw[jM];exact gE (X0 _ _) (by simp)
theorem Tc{w:World}{R:bZ}{ps:aY}(h:iE w R ps){s k:Int}(hw:Ey s k R)(π:(gK (used R)).length<=4096){bp:γ}{bn bc:Nat}{but:aq}(τ:bd w bp (bA.cW but))(Vs:but.length=bn)(eL:bn<=1000):
  tZ.C (bT R ps).toArray s k bp bn bc w (ω λv w'=>∃q d,v=.tuple #[.slice q (k6 s.toNat (lays (used R)) but).length d,.int .i64 0]/\η w w'/\μ w' w.heap.size cz 1 q (k6 s.toNat (lays (used R)) but).length d (bA.cW (k6 s.toNat (lays (used R)) but))):=by
 have Wg:6<=s/\s<=24:=by have:=hw.1;unfold may at this;simp at this;omega
 obtain⟨n,rfl⟩:=eF (show 0<=s by omega);apply tZ.ok;unfold tZ.main;rintro δ ε rfl rfl ζ υ rfl rfl;have σ:=μ.new (w:=w) (bT R ps) b3;have θ:=η.alloc w (.cells (bT R ps).toArray b3);generalize w.alloc (.cells (bT R ps).toArray b3)=ε at σ θ⊢;have af:=μ.new (w:=ε) [.int .i64 (n:Int),.int .i64 k] b2;have ρ:=η.alloc ε (.cells #[.int .i64 (n:Int),.int .i64 k] b2);generalize ε.alloc (.cells #[.int .i64 (n:Int),.int .i64 k] b2)=υ at af ρ⊢;have σ:=σ.ex ρ;have ft:=θ.trans ρ;have o7:(bT R ps).toArray.size=24:=by simp[bT,BP,h.len,h.dN]
 refine⟨(bT R ps).toArray,o7,σ.cells,#[.int .i64 (n:Int),.int .i64 k],rfl,af.cells,?_⟩;refine κ.use (Zq (h.ex ft) hw π) ?_;rintro _ χ ⟨q,d,rfl,ad,bh⟩
 try dsimp only[ca,cT,cU,bo,bL,ee]
 rw[cond_neg (by decide)];rw[ch]at bh⊢;have ha:=ft.trans ad;have k7:(lays (used R)).length<=4096:=by rw[<-MD (λx=>kv (used R) x),Jl (λx J=>sB h.ok x ((kv _ _).1 J)) (xk _)];exact π
 generalize lays (used R)=V at bh k7⊢;unfold tZ.bb;refine⟨λdw dh ef fH fq fQ Kf Ke NW t23 t24 w'=>bp=dw/\bn=dh/\q=Kf/\n=Ke/\(n:Int)=t23/\0<=t24/\t24<=n/\η w w'/\η χ w'/\fq=(k6 t24.toNat V but).length/\μ w' χ.heap.size cz 1 fH fq fQ (bA.cW (k6 t24.toNat V but)),
  λ_ _ _ _ _ _ _ _ _ _ t24 _=>(n-t24).toNat,⟨rfl,rfl,rfl,rfl,rfl,by omega,by omega,ha,η.refl _,rfl,μ.nil χ χ.heap.size cz 1⟩,?_⟩
 rintro _ _ ef fH fq fQ _ _ NW _ t24 w' ⟨rfl,rfl,rfl,rfl,rfl,aF,h1,J,oG,ak,o⟩;unfold tZ.δ;obtain⟨j,rfl⟩:=eF aF;rw[ch]at ak o;have l2:IntKind.i64.wrap ((j:Int)+1)=((j+1:Nat):Int):=by rw[bS (by omega) (by omega)];rfl
 have w8:=UT j V but;refine bt (λψ=>?_) (λψ=>?_)
 ·have ψ:=b6 ψ;have ff:j<n:=by omega
  obtain⟨a,aR,r⟩:=(bh.ex oG).cells.many (bA.vO (ID V ff));refine bU (bI aF) (bU (bI ψ) ?_);refine hh aR ⟨_,by rw[ch,eS];exact r,?_⟩;rw[l2];have stay:BL V but j=false->k6 (j+1) V but=k6 j V but:=λe=>by rw[acf,e];simp
  refine bt (λPS=>?_) (λPS=>?_)
  ·refine κ.use (bA.Zp (τ.ex J) Vs (by omega) (j:Int)) ?_;rintro _ an ⟨rfl,ay⟩
   try dsimp only[dX]
   have aI:((V.filter λx=>x.1==j).length==0)=true:=by simpa using PS
   have cB:=o.ex ay;cases ea:bA.has but (j:Int)with
   |true=>
    rw[v7,xz];have e:=stay (by unfold BL;rw[ea];simp);refine⟨⟨rfl,rfl,rfl,rfl,rfl,by omega,by omega,J.trans ay,oG.trans ay,?_,?_⟩,by((try dsimp only);omega)⟩
    ·show fq=(k6 (j+1) V but).length;rw[e];exact ak
    ·show μ an _ _ _ _ _ _ (bA.cW (k6 (j+1) V but));rw[e];exact cB
   |false=>
    rw[Ar,ts];rintro aa a8 rfl rfl;have aU:=η.alloc an (.cells #[.int .i64 (j:Int)] cz);have oy:bd (an.alloc (.cells #[.int .i64 (j:Int)] cz)) (some ⟨an.heap.size,0,none⟩) [.int .i64 (j:Int)]:=bd.alloc _ cz;generalize an.alloc (.cells #[.int .i64 (j:Int)] cz)=a8 at aU oy⊢;have O5:=ay.trans aU;refine mx (o.ex O5) (oG.trans O5).size [.int .i64 (j:Int)] oy rfl (λy ag=>by simp only[ma]at ag;subst ag;rfl) rfl (by omega) (by omega) (λeo h0 bV e4 fO=>?_);have e:k6 (j+1) V but=k6 j V but++[(j:Int)]:=by rw[acf];unfold BL;rw[ea,aI];rfl
    have low:∀i,(∃x,fH=some x/\x.block=i)->χ.heap.size<=i:=λi⟨x,J,I⟩=>I▸(o.ge J).1;refine⟨⟨rfl,rfl,rfl,rfl,rfl,by omega,by omega,(J.trans O5).then fO λi I=>gE ha.size (low i I),(oG.trans O5).then fO low,?_,?_⟩,by((try dsimp only);omega)⟩
    ·show fq+1=(k6 (j+1) V but).length;rw[e,fw,ak];rfl
    ·show μ bV _ _ _ _ _ _ (bA.cW (k6 (j+1) V but));rw[e]
     have:bA.cW (k6 j V but++[(j:Int)])=bA.cW (k6 j V but)++[.int .i64 (j:Int)]:=by simp[bA.cW]
     rw[this];exact e4
  ·have aI:((V.filter λx=>x.1==j).length==0)=false:=by
    cases aH:((V.filter λx=>x.1==j).length==0)with
    |false=>rfl
    |true=>
     have:(V.filter λx=>x.1==j).length=0:=by simpa using aH
     rw[this]at PS;cases PS
   have e:=stay (by unfold BL;rw[aI];rfl);refine⟨⟨rfl,rfl,rfl,rfl,rfl,by omega,by omega,J,oG,?_,?_⟩,by((try dsimp only);omega)⟩
   ·show fq=(k6 (j+1) V but).length;rw[e];exact ak
   ·show μ w' _ _ _ _ _ _ (bA.cW (k6 (j+1) V but));rw[e];exact o
 ·have ψ:=dn ψ;obtain rfl:j=n:=by omega
  subst ak;exact ω.mk ⟨fH,fQ,rfl,J,o.lower ha.size⟩
theorem aun{a b:Int}(h:0<=a/\a<=1048576/\1<=b/\b<=1048576)(w:World):Hd.C a b w (ω λv w'=>v=.bool true/\w'=w):=by apply Hd.ok;unfold Hd.main;rw[cond_pos (bI (by omega)),cond_pos (bI (by omega)),cond_pos (bI (by omega))];exact ω.mk ⟨by rw[bI (by omega)],rfl⟩
def Po(a b:Int):Int:=if a<b then-1 else if b<a then 1 else 0
theorem ajZ(a b:Int)(w:World):E8.C a b w (ω λv w'=>v=.int .i64 (Po a b)/\w'=w):=by
 apply E8.ok;unfold E8.main;refine κ.use (bA.Tj a w) ?_;rintro _ ε ⟨rfl,aP⟩;obtain rfl:=aP.symm
 try dsimp only[dX,jz]
 refine κ.use (bA.Tj b _) ?_;rintro _ υ ⟨rfl,bM⟩;obtain rfl:=bM.symm
 try dsimp only[dX,jz]
 unfold Po;refine bt (λh=>?_) (λh=>bt (λe2=>?_) (λe2=>?_))
 ·exact ω.mk ⟨by rw[aN (b6 h)],rfl⟩
 ·exact ω.mk ⟨by rw[aL (dn h),aN (b6 e2)],rfl⟩
 ·exact ω.mk ⟨by rw[aL (dn h),aL (dn e2)],rfl⟩
theorem amI{a b c d:Int}(aR:0<=a/\a<=1048576)(τ:1<=b/\b<=1048576)(π:0<=c/\c<=1048576)(ah:1<=d/\d<=1048576)(w:World):Hc.C a b c d w (ω λv w'=>v=.int .i64 (Po (a*d) (c*b))/\w'=w):=by
 apply Hc.ok;unfold Hc.main;have h1:0<=a*d:=yZ aR.1 (by omega);have ι:a*d<=1048576*1048576:=qJ aR.2 ah.2 (by omega) (by omega);have aJ:0<=c*b:=yZ π.1 (by omega);have cK:c*b<=1048576*1048576:=qJ π.2 τ.2 (by omega) (by omega);rw[bS (x:=a*d) (by omega) (by omega),bS (x:=c*b) (by omega) (by omega)];refine κ.use (ajZ _ _ w) ?_;rintro _ ε ⟨rfl,aP⟩;obtain rfl:=aP.symm
 try dsimp only[bL]
 exact ω.mk ⟨rfl,rfl⟩
theorem ak2{l b a:Int}(τ:2<=b/\b<=16)(ak:0<=l/\l<=b)(aR:0<=a/\a<65536)(w:World):Hb.C l b a w (ω λv w'=>v=.tuple #[.int .i64 ((b-l)*(a+1)),.int .i64 (b+l),.int .i64 0]/\w'=w):=by apply Hb.ok;unfold Hb.main;rw[cond_neg (iX (by omega)),cond_neg (iX (by omega)),cond_neg (iX (by omega)),cond_neg (iX (by omega)),cond_neg (iX (by omega)),cond_neg (iX (by omega))];have h1:0<=(b-l)*(a+1):=yZ (by omega) (by omega);have ι:(b-l)*(a+1)<=16*65536:=qJ (by omega) (by omega) (by omega) (by omega);rw[bS (x:=b-l) (by omega) (by omega),bS (x:=a+1) (by omega) (by omega),bS (x:=(b-l)*(a+1)) (by omega) (by omega),bS (x:=b+l) (by omega) (by omega)];exact ω.mk ⟨rfl,rfl⟩
def r8(os us:aq):Nat->Nat
 |0=>0
 |k+1=>if Po (os.getD k 0*us.getD (r8 os us k) 0) (os.getD (r8 os us k) 0*us.getD k 0)>0 then k else r8 os us k
theorem Pd(os us:aq):∀{k n:Nat},k<=n->1<=n->r8 os us k<n
 |0,n,_,h=>h
 |k+1,n,h,h1=>by
  unfold r8;split
  ·omega
  ·exact Pd os us (by omega) h1
theorem FG{l:aq}{i:Nat}(h:i<l.length):l[i]?=some (l.getD i 0):=by rw[List.getD_eq_getElem?_getD,List.getElem?_eq_getElem h];rfl
theorem ajU{w:World}{p q:γ}{n c d:Nat}{os us:aq}(aG:bd w p (bA.cW os))(hu:bd w q (bA.cW us))(V8:os.length=n)(nG:us.length=n)(ar:1<=n/\n<=4096)
  (aqy:∀x∈os,0<=x/\x<=1048576)(Wl:∀x∈us,1<=x/\x<=1048576):uL.C p n c q n d w (ω λv w'=>v=.tuple #[.int .i64 (r8 os us n:Nat),.int .i64 0]/\η w w'):=by
 apply uL.ok;unfold uL.main;rw[cond_neg (by simp),cond_neg (by simp;omega),cond_neg (iX (by omega))];unfold uL.bb;refine⟨λcy cp cG nh ng qT t6 t24 t25 w'=>p=cy/\n=cp/\q=nh/\n=ng/\(n:Int)=t24/\0<=t25/\t25<=n/\t6=(r8 os us t25.toNat:Nat)/\η w w',λ_ _ _ _ _ _ _ _ t25 _=>(n-t25).toNat,⟨rfl,rfl,rfl,rfl,rfl,by omega,by omega,rfl,η.refl w⟩,?_⟩;rintro _ _ cG _ _ qT _ _ t25 w' ⟨rfl,rfl,rfl,rfl,rfl,aF,h1,rfl,J⟩;unfold uL.δ;obtain⟨j,rfl⟩:=eF aF;rw[ch];refine bt (λψ=>?_) (λψ=>?_)
 ·have ψ:=b6 ψ;have ff:j<n:=by omega
  have τ:=Pd os us (show j<=n by omega) ar.1;generalize yk:r8 os us j=b at τ⊢;have g:=λ{i:Nat}(I:i<n)(W:World)(fF:η w W)=>(aG.ex fF).many (bA.vO (FG (l:=os) (i:=i) (by omega)));have ye:=λ{i:Nat}(I:i<n)(W:World)(fF:η w W)=>(hu.ex fF).many (bA.vO (FG (l:=us) (i:=i) (by omega)));have θ:=J.trans (η.drew w');have ro:=λ{i:Nat}(I:i<n)=>aqy _ (fa (FG (l:=os) (i:=i) (by omega)));have RM:=λ{i:Nat}(I:i<n)=>Wl _ (fa (FG (l:=us) (i:=i) (by omega)));have PE:j*1=j:=eS j;have PD:(((b:Nat):Int).toNat*1)=b:=by omega
  have fN:=bI aF;have Pl:=bI ψ;have abd:decide (0<=((b:Nat):Int))=true:=bI (by omega);have js:decide (((b:Nat):Int)<((n:Nat):Int))=true:=bI (by omega);obtain⟨aw,aP,cM⟩:=g ff _ θ;obtain⟨a2,bM,fC⟩:=ye ff _ θ;refine bU fN (bU Pl (hh aP ⟨_,by rw[PE];exact cM,bU fN (bU Pl (hh bM ⟨_,by rw[PE];exact fC,?_⟩))⟩));refine κ.use (aun ⟨(ro ff).1,(ro ff).2,(RM ff).1,(RM ff).2⟩ _) ?_;rintro _ ε ⟨rfl,Bn⟩;obtain rfl:=Bn.symm
  try dsimp only[dX]
  have ρ:=θ.trans (η.drew w'.drew);obtain⟨a3,gA,iY⟩:=g ff _ ρ;obtain⟨a4,jE,rN⟩:=ye ff _ ρ;obtain⟨a5,iJ,DY⟩:=g τ _ ρ;obtain⟨alQ,rh,aur⟩:=ye τ _ ρ;refine bU Pl (hh gA ⟨_,by rw[PE];exact iY,bU fN (bU Pl (hh jE ⟨_,by rw[PE];exact rN,bU abd (bU js (hh iJ ⟨_,by rw[PD];exact DY,bU abd (bU js (hh rh ⟨_,by rw[PD];exact aur,?_⟩))⟩))⟩))⟩);refine κ.use (amI (ro ff) (RM ff) (ro τ) (RM τ) _) ?_;rintro _ χ ⟨rfl,Bn⟩;obtain rfl:=Bn.symm
  try dsimp only[bL]
  have l2:IntKind.i64.wrap ((j:Int)+1)=((j+1:Nat):Int):=by rw[bS (by omega) (by omega)];rfl
  rw[l2];refine bt (λbH=>?_) (λbH=>?_)
  ·refine⟨⟨rfl,rfl,rfl,rfl,rfl,by omega,by omega,?_,ρ⟩,by((try dsimp only);omega)⟩;show((j:Nat):Int)=(r8 os us (j+1):Nat);unfold r8;rw[yk,aN (b6 bH)]
  ·refine⟨⟨rfl,rfl,rfl,rfl,rfl,by omega,by omega,?_,ρ⟩,by((try dsimp only);omega)⟩;show((b:Nat):Int)=(r8 os us (j+1):Nat);unfold r8;rw[yk,aL (dn bH)]
 ·have ψ:=dn ψ;obtain rfl:j=n:=by omega
  exact ω.mk ⟨rfl,J⟩
theorem amC{w:World}{B q:Nat}{s k x:Int}(o:μ w B b2 2 (some ⟨q,0,none⟩) 1 1 [.int .i64 s,.int .i64 k])(J:0<=x/\x<=k):E6.C x q w (ω λv w'=>v=.bool false/\w'=w):=by apply E6.ok;unfold E6.main;rw[cond_neg (iX (by omega))];exact⟨k,o.at (j:=1) rfl,ω.mk ⟨by rw[iX (by omega)],rfl⟩⟩
theorem akp{w:World}{B q:Nat}{s k:Int}{p:γ}{n c:Nat}{xs:aq}(π:bd w p (bA.cW xs))(ar:xs.length=n)(τ:n<=100000)(o:μ w B b2 2 (some ⟨q,0,none⟩) 1 1 [.int .i64 s,.int .i64 k])(J:∀x∈xs,0<=x/\x<=k):uZ.C p n c q w (ω λv w'=>v=.int .i64 (-1)/\w'=w):=by
 apply uZ.ok;unfold uZ.main uZ.bb;refine⟨λcy cp cG t1 t7 t8 w'=>p=cy/\n=cp/\q=t1/\(n:Int)=t7/\0<=t8/\t8<=n/\w=w',λ_ _ _ _ _ t8 _=>(n-t8).toNat,⟨rfl,rfl,rfl,rfl,by omega,by omega,rfl⟩,?_⟩;rintro _ _ cG _ _ t8 _ ⟨rfl,rfl,rfl,rfl,aF,h1,rfl⟩;unfold uZ.δ;obtain⟨j,rfl⟩:=eF aF;refine bt (λψ=>?_) (λψ=>ω.mk ⟨rfl,rfl⟩);have ψ:=b6 ψ;have ff:j<xs.length:=by omega
 obtain⟨a,aR,r⟩:=π.many (bA.vO (List.getElem?_eq_getElem ff));refine bU (bI aF) (bU (bI ψ) (hh aR ⟨_,by rw[ch,eS];exact r,?_⟩));refine κ.use (amC o (J _ (hP ff))) ?_;rintro _ ε ⟨rfl,aP⟩;obtain rfl:=aP.symm
 try dsimp only[dX,jz]
 rw[bS (x:=(j:Int)+1) (by omega) (by omega)];exact⟨⟨rfl,rfl,rfl,rfl,by omega,by omega,rfl⟩,by((try dsimp only);omega)⟩
theorem amP{w:World}{s k:Int}(hm:bA.may s k=true){p:γ}{n c:Nat}{xs:aq}(π:bd w p (bA.cW xs))(ar:xs.length=n)(ab:(n:Int)=s)(J:∀x∈xs,0<=x/\x<=k):E5.C s k p n c w (ω λv w'=>v=.bool true/\η w w'):=by
 have h8:6<=s/\s<=24:=by unfold bA.may at hm;simp at hm;omega
 apply E5.ok;unfold E5.main;rintro δ ε rfl rfl;have σ:=μ.new (w:=w) [.int .i64 s,.int .i64 k] b2;have θ:=η.alloc w (.cells #[.int .i64 s,.int .i64 k] b2);generalize w.alloc (.cells #[.int .i64 s,.int .i64 k] b2)=ε at σ θ⊢;refine⟨#[.int .i64 s,.int .i64 k],rfl,σ.cells,?_⟩;refine κ.use (bA.CB s k ε) ?_;rintro _ υ ⟨rfl,ρ⟩;rw[hm]
 try dsimp only[bL]
 rw[cond_pos (by decide)];have σ:=σ.ex ρ;refine⟨s,σ.at (j:=0) rfl,?_⟩;rw[cond_pos (by simpa using ab)];refine κ.use (S:=λv w'=>v=.bool false/\η υ w') ?_ ?_
 ·apply Ka.ok;unfold Ka.main;refine κ.use (akp (π.ex (θ.trans ρ)) ar (by omega) σ J) ?_;rintro _ χ ⟨rfl,gA⟩;obtain rfl:=gA.symm
  try dsimp only[bL]
  exact ω.mk ⟨rfl,η.refl _⟩
 rintro _ ao ⟨rfl,aC⟩
 try dsimp only[dX]
 exact ω.mk ⟨rfl,(θ.trans ρ).trans aC⟩
end Go.Proofs.YtcpdfhkhaekekaaGreat.G.cF
namespace Go.Proofs.YtcpdfhkhaekekaaGreat.G.eI
open Go.bJ Go.RowKit cF
def KK(w:World)(q:γ)(l:List eK):Prop:=(q=none/\l=List.replicate 8 none)\/∃b,q=some ⟨b,0,none⟩/\μ w 0 y9 8 (some ⟨b,0,none⟩) 1 1 (l.map et)
def tR(w:World)(i:Nat):Prop:=Typed w u4 i\/Typed w wo i\/Typed w y9 i
structure A7(w:World)(b n:Nat)(L:List eK)(p:γ)(c:Nat)(qs:List γ):Prop where
 size:1<=n/\n<=32
 len:L.length=8*qs.length
 many:qs.length=(n+7)/8
 ok:∀x∈L,kH x
 cell:μ w 0 u4 2 (some ⟨b,0,none⟩) 1 1 [.int .i64 (n:Int),.slice p qs.length c]
 row:μ w 0 wo 1 p qs.length c (qs.map Value.pointer)
 bw:∀(k:Nat)(q:γ),qs[k]?=some q->KK w q ((L.drop (8*k)).take 8)
def TabIs(w:World)(ic:γ)(n:Nat)(L:List eK):Prop:=∃b p c qs,ic=some ⟨b,0,none⟩/\A7 w b n L p c qs
theorem KK.aO{w w':World}{q:γ}{l:List eK}(h:KK w q l){S:bl}(k:Kp w w' S)(ab:∀i,S i->¬tR w i):KK w' q l:=by
 rcases h with h|⟨b,aH,h⟩
 ·exact .inl h
 ·exact .inr ⟨b,aH,h.aO k λx J I=>ab _ I (.inr (.inr (h.typed J).1))⟩
theorem A7.aO{w w':World}{b n:Nat}{L:List eK}{p:γ}{c:Nat}{qs:List γ}(h:A7 w b n L p c qs){S:bl}(k:Kp w w' S)(ab:∀i,S i->¬tR w i):A7 w' b n L p c qs:=
 ⟨h.size,h.len,h.many,h.ok,h.cell.aO k λx J I=>ab _ I (.inl (h.cell.typed J).1),h.row.aO k λx J I=>ab _ I (.inr (.inl (h.row.typed J).1)),λi q aH=>(h.bw i q aH).aO k ab⟩
theorem TabIs.aO{w w':World}{ic:γ}{n:Nat}{L:List eK}(h:TabIs w ic n L){S:bl}(k:Kp w w' S)(ab:∀i,S i->¬tR w i):TabIs w' ic n L:=by obtain⟨b,p,c,qs,e,h⟩:=h;exact⟨b,p,c,qs,e,h.aO k ab⟩
theorem A7.ex{w w':World}{b n:Nat}{L:List eK}{p:γ}{c:Nat}{qs:List γ}(h:A7 w b n L p c qs)(x:η w w'):A7 w' b n L p c qs:=h.aO x λ_ h=>h.elim
theorem TabIs.ex{w w':World}{ic:γ}{n:Nat}{L:List eK}(h:TabIs w ic n L)(x:η w w'):TabIs w' ic n L:=h.aO x λ_ h=>h.elim
theorem TabIs.len{w:World}{ic:γ}{n:Nat}{L:List eK}(h:TabIs w ic n L):1<=n/\n<=32/\n<=L.length/\∀x∈L,kH x:=by
 obtain⟨b,p,c,qs,e,h⟩:=h
 have:=h.len
 have:=h.many
 have:=h.size
 exact⟨by omega,by omega,by omega,h.ok⟩
theorem YH{j:Nat}(h:j<1000):IntKind.i64.wrap (Int.tdiv (j:Int) 8)=((j/8:Nat):Int):=by have e:Int.tdiv (j:Int) 8=((j/8:Nat):Int):=rfl;rw[e,bS (by omega) (by omega)]
theorem aiR(j:Nat):Int.tmod (j:Int) 8=((j%8:Nat):Int):=rfl
theorem TK{w:World}{ic:γ}{n:Nat}{L:List eK}(h:TabIs w ic n L){j:Nat}(ψ:j<n):H6.C ic (j:Int) w (ω λv w'=>v=et (L.getD j none)/\w'=w):=by
 obtain⟨b,p,c,qs,rfl,h⟩:=h;have ar:=h.size;have hm:=h.many;have ak:=h.len;apply H6.ok;unfold H6.main
 try dsimp only[bo]
 rw[YH (by omega),aiR];simp only[dG];refine⟨p,_,c,h.cell.at (j:=1) rfl,aT (by omega) (aT (by omega) ?_)⟩;have hk:j/8<qs.length:=by omega
 obtain⟨a,aR,r⟩:=h.row.cells.many (j:=j/8) (v:=.pointer qs[j/8]) (by rw[List.getElem?_map,List.getElem?_eq_getElem hk];rfl);refine hh aR ⟨_,by rw[ch,eS];exact r,?_⟩;have mE:=h.bw (j/8) qs[j/8] (List.getElem?_eq_getElem hk);have n2:L.getD j none=((L.drop (8*(j/8))).take 8).getD (j%8) none:=by rw[List.getD_eq_getElem?_getD,List.getD_eq_getElem?_getD,List.getElem?_take,aN (by omega),List.getElem?_drop,show 8*(j/8)+j%8=j by omega]
 rcases mE with⟨aH,φ⟩|⟨ζ,aH,o⟩
 ·rw[aH,cond_neg (by rfl)];refine ω.mk ⟨?_,rfl⟩;rw[n2,φ,List.getD_eq_getElem?_getD,List.getElem?_replicate,aN (by omega)];rfl
 ·rw[aH,cond_pos (by rfl)];refine hh rfl (aT (by omega) (aT (by omega) ?_));simp only[dG];have bQ:j%8<((L.drop (8*(j/8))).take 8).length:=by rw[hs,lg];omega
  refine⟨_,_,by rw[ch,eS];exact o.at (j:=j%8) (v:=et (((L.drop (8*(j/8))).take 8)[j%8])) (by rw[List.getElem?_map,List.getElem?_eq_getElem bQ];rfl),?_⟩;refine ω.mk ⟨?_,rfl⟩;rw[n2,List.getD_eq_getElem?_getD,List.getElem?_eq_getElem bQ];rfl
theorem YI{w:World}{ic:γ}{n:Nat}{L:List eK}(h:TabIs w ic n L)(j:Int):H7.C ic j w (ω λv w'=>v=.int .i64 (if 0<=j/\j<n then 0 else 5)/\w'=w):=by
 obtain⟨b,p,c,qs,rfl,h⟩:=h;apply H7.ok;unfold H7.main
 try dsimp only[nD,bo,jz]
 refine bt (λaF=>?_) (λaF=>?_)
 ·have aF:=b6 aF;rw[aL (by omega)];exact ω.mk ⟨rfl,rfl⟩
 ·have aF:=dn aF;refine⟨n,h.cell.at (j:=0) rfl,bt (λh1=>?_) (λh1=>?_)⟩
  ·have h1:=b6 h1;rw[aL (by omega)];exact ω.mk ⟨rfl,rfl⟩
  ·have h1:=dn h1;rw[aN (by omega)];exact ω.mk ⟨rfl,rfl⟩
theorem KN{w:World}{ic:γ}{n:Nat}{L:List eK}(h:TabIs w ic n L):AI.C ic w (ω λv w'=>v=.int .i64 (n:Int)/\w'=w):=by
 obtain⟨b,p,c,qs,rfl,h⟩:=h;apply AI.ok;unfold AI.main
 try dsimp only[nD,bo,jz]
 exact⟨n,h.cell.at (j:=0) rfl,ω.mk ⟨rfl,rfl⟩⟩
theorem ala(w:World):AI.C none w (ω λv w'=>v=.int .i64 0/\w'=w):=by
 apply AI.ok;unfold AI.main
 try dsimp only[Lh,C0]
 exact ω.mk ⟨rfl,rfl⟩
def IN(q:eK):Value:=match q with
 |some x=>.tuple #[et (some x),.bool true,.int .i64 0]
 |none=>.tuple #[.complex .f64 0 0,.bool false,.int .i64 0]
theorem ack{L:List eK}(h:∀x∈L,kH x)(j:Nat):kH (L.getD j none):=by
 rw[List.getD_eq_getElem?_getD];cases aH:L[j]?with
 |none=>trivial
 |some q=>exact h q (fa aH)
theorem zn{w:World}{ic:γ}{n:Nat}{L:List eK}(h:TabIs w ic n L)(j:Int):H4.C ic j w (ω λv w'=>v=(if 0<=j/\j<n then IN (L.getD j.toNat none)else .tuple #[.complex .f64 0 0,.bool false,.int .i64 5])/\w'=w):=by
 apply H4.ok;unfold H4.main;refine κ.use (YI h j) ?_;rintro _ _ ⟨rfl,rfl⟩
 try dsimp only[bL]
 by_cases ψ:0<=j/\j<n
 ·rw[aN ψ,aN ψ,cond_neg (by rfl)];obtain⟨i,rfl⟩:=eF ψ.1;refine κ.use (TK h (j:=i) (by omega)) ?_;rintro _ _ ⟨rfl,rfl⟩;rw[ch];have dJ:=ack h.len.2.2.2 i;generalize L.getD i none=q at dJ⊢;unfold et
  try dsimp only[sV]
  rw[empty_eq dJ];cases q with
  |none=>rw[cond_neg (by rfl)];exact ω.mk ⟨rfl,rfl⟩
  |some x=>rw[cond_pos (by rfl)];exact ω.mk ⟨rfl,rfl⟩
 ·rw[aL ψ,aL ψ,cond_pos (by rfl)];exact ω.mk ⟨rfl,rfl⟩
theorem A3{n:Nat}(h:1<=n/\n<=32)(w:World):AH.C (n:Int) w (ω λv w'=>∃ic,v=.tuple #[.pointer ic,.int .i64 0]/\η w w'/\TabIs w' ic n (List.replicate (8*((n+7)/8)) none)):=by
 apply AH.ok;unfold AH.main;rw[jl (by omega),jl (by omega)];have hB:IntKind.i64.wrap (Int.tdiv (IntKind.i64.wrap ((IntKind.i64.wrap ((n:Int)+8))-1)) 8)=(((n+7)/8:Nat):Int):=by rw[bS (x:=(n:Int)+8) (by omega) (by omega),bS (x:=(n:Int)+8-1) (by omega) (by omega),show(n:Int)+8-1=((n+7:Nat):Int)by omega];exact YH (by omega)
 rw[hB];refine aT (by omega) (aT (by omega) (aT (by omega) ?_));rw[ch,eS];rintro δ ε rfl rfl ζ υ rfl rfl;generalize hm:(n+7)/8=m;have em:madeCells #[Value.pointer none] m=(List.replicate m (Value.pointer none)).toArray:=DD 1 m (.pointer none) (by decide);rw[em];have σ:=μ.alloc (w:=w) (List.replicate m (Value.pointer none)) wo 1 m (by simp);have θ:=η.alloc w (.cells (List.replicate m (Value.pointer none)).toArray wo);generalize w.alloc (.cells (List.replicate m (Value.pointer none)).toArray wo)=ε at σ θ⊢;have af:=μ.new (w:=ε) [.int .i64 (n:Int),.slice (some ⟨w.heap.size,0,none⟩) m m] u4;have ρ:=η.alloc ε (.cells #[.int .i64 (n:Int),.slice (some ⟨w.heap.size,0,none⟩) m m] u4);generalize ε.alloc (.cells #[.int .i64 (n:Int),.slice (some ⟨w.heap.size,0,none⟩) m m] u4)=υ at af ρ⊢;refine ω.mk ⟨_,rfl,θ.trans ρ,ε.heap.size,some ⟨w.heap.size,0,none⟩,m,List.replicate m none,rfl,h,by simp,by simp[hm],λx J=>?_,?_,?_,λk q aH=>?_⟩
 ·rw[nb J];trivial
 ·rw[me];exact af.lower (eR _)
 ·rw[me,JJ];exact(σ.ex ρ).lower (eR _)
 ·have Mg:=List.getElem?_eq_some_iff.1 aH;obtain⟨hk,rfl⟩:=Mg;rw[me]at hk;refine .inl ⟨by simp,?_⟩;rw[List.drop_replicate,RF];congr 1;omega
theorem akG{n:Int}(h:¬(1<=n/\n<=32))(w:World):AH.C n w (ω λv w'=>v=.tuple #[.pointer none,.int .i64 1]/\w'=w):=by apply AH.ok;unfold AH.main;refine bt (λ_=>ω.mk ⟨rfl,rfl⟩) λaF=>?_;have aF:=dn aF;rw[vv (by omega)];exact ω.mk ⟨rfl,rfl⟩
theorem Zl(p:γ)(n c:Nat)(xs:aY)(w:World)(π:bd w p xs)(ak:xs.length=n)(ar:n<=1000000000000)(h1:∀y∈xs,y.oneCell'=true):
  H8.C p n c w (ω λv w'=>∃b5 aW,v=.slice b5 n aW/\η w w'/\μ w' w.heap.size wo 1 b5 n aW xs):=by
 apply H8.ok;unfold H8.main;cases p with
 |none=>
  have:xs=[]:=π
  subst this
  have:n=0:=by simpa using ak.symm
  subst this
  try dsimp only[Lh,C0]
  exact ω.mk ⟨none,0,rfl,η.refl w,μ.nil _ _ _ _⟩
 |some a=>
  try dsimp only[nD,jz]
  rintro δ ε rfl rfl;have aG:=μ.alloc (w:=w) [] wo 1 0 rfl;have J:=η.alloc w (.cells #[] wo);refine mx aG (by have:=J.size;exact this) xs (bd.ex J π) (by omega) h1 rfl (by omega) (by omega) (λb5 aW w' kf hk=>?_);rw[oh]at kf⊢;rw[uJ]at kf;exact ω.mk ⟨b5,aW,rfl,J.then hk (λi⟨x,e,I⟩=>by cases e;exact JK I),kf⟩
theorem μ.base{w:World}{B:Nat}{e:TypeId}{sz:Nat}{p:γ}{n c:Nat}{xs:aY}(h:μ w B e sz p n c xs)(ar:1<=n):∃b,p=some ⟨b,0,none⟩:=by
 obtain⟨_,h1,⟨_,ι⟩|⟨b,_,_,ι,_⟩⟩:=h
 ·omega
 ·exact⟨b,ι⟩
theorem afF(l:List γ):∀y∈l.map Value.pointer,y.oneCell'=true:=by intro y ag;obtain⟨x,_,rfl⟩:=gx.1 ag;rfl
theorem aoZ(p:γ)(n c:Nat)(l:List eK)(w:World)(π:bd w p (l.map et))(ar:l.length=n)(ak:n<=1000000)(aG:∀q∈l,kH q):
  wg.C p n c (.func (.func 160) #[] #[]) w (ω λv w'=>v=.bool (l.any Option.isSome)/\w'=w):=by
 apply wg.ok;unfold wg.main;have h:uX.C p n c w (ω λv w'=>(∃i:Int,v=.int .i64 i/\decide (i>=0)=l.any Option.isSome)/\w'=w):=by
  apply uX.ok;unfold uX.main uX.bb;refine⟨λcy cp cG t7 t8 w'=>p=cy/\n=cp/\c=cG/\(n:Int)=t7/\0<=t8/\t8<=n/\w=w'/\(l.take t8.toNat).any Option.isSome=false,λ_ _ _ _ t8 _=>(n-t8).toNat,⟨rfl,rfl,rfl,rfl,by omega,by omega,rfl,rfl⟩,?_⟩;rintro _ _ _ _ t8 _ ⟨rfl,rfl,rfl,rfl,aF,h1,rfl,ew⟩;unfold uX.δ;obtain⟨j,rfl⟩:=eF aF;rw[ch]at ew;refine bt (λh=>?_) (λh=>?_)
  ·have bQ:=b6 h;have ψ:j<l.length:=by omega
   obtain⟨a,rfl,r⟩:=GO π ψ;refine bU (bI aF) (bU (bI bQ) ?_)
   try dsimp only[bo]
   rw[ch,eS];refine⟨_,_,r,?_⟩;have hk:=aG _ (hP ψ);refine κ.use (S:=λv w'=>v=.bool l[j].isSome/\w'=w) ?_ ?_
   ·apply Kj.ok;unfold Kj.main;rw[empty_eq hk];exact ω.mk ⟨rfl,rfl⟩
   rintro _ _ ⟨rfl,rfl⟩
   try dsimp only[dX]
   refine bt (λab=>ω.mk ⟨⟨_,rfl,?_⟩,rfl⟩) (λab=>?_)
   ·rw[any_true _ l ψ ab,bI aF]
   ·rw[bS (by omega) (by omega)];exact⟨⟨rfl,rfl,rfl,rfl,by omega,by omega,rfl,by show(l.take (j+1)).any _=_;rw[aav _ l ψ ew];exact ab⟩,by((try dsimp only);omega)⟩
  ·have bQ:=dn h;rw[hR (by omega)]at ew;exact ω.mk ⟨⟨_,rfl,by rw[ew];rfl⟩,rfl⟩
 refine κ.use h ?_;rintro _ _ ⟨⟨i,rfl,I⟩,rfl⟩
 try dsimp only[bL]
 exact ω.mk ⟨by rw[I],rfl⟩
theorem amv{L:List eK}{j k:Nat}(z:eK):((L.set j z).drop (8*k)).take 8=if k=j/8 then((L.drop (8*k)).take 8).set (j%8) z else(L.drop (8*k)).take 8:=by
 rw[List.drop_set];by_cases h1:j<8*k
 ·rw[aN h1,aL (by omega)]
 ·rw[aL h1,List.take_set];by_cases ι:k=j/8
  ·rw[aN ι,show j-8*k=j%8 by omega]
  ·rw[aL ι,List.set_eq_of_length_le (by rw[hs];omega)]
theorem asI{l:List eK}(dD:l.length=8)(h:l.any Option.isSome=false):l=List.replicate 8 none:=by
 apply List.ext_getElem
 ·simp[dD]
 ·intro i h1 ι;rw[List.getElem_replicate]
  have:=JM.1 h l[i] (hP h1)
  cases aH:l[i]with
  |none=>rfl
  |some x=>rw[aH]at this;simp at this
theorem agm{w0 w:World}{b n:Nat}{L:List eK}{p:γ}{c:Nat}{qs:List γ}(h:A7 w0 b n L p c qs)(J:η w0 w){j:Nat}(ψ:j<n){z:eK}(aI:kH z){t7:Nat}
  (o:μ w w0.heap.size y9 8 (some ⟨t7,0,none⟩) 1 1 (((L.drop (8*(j/8))).take 8).map et)):
  nn.bK (some ⟨b,0,none⟩) (j:Int) (eX z) (e5 z) t7 ((j/8:Nat):Int) w (ω λv w'=>∃ic,v=.pointer ic/\η w0 w'/\TabIs w' ic n (L.set j z)):=by
 have ar:=h.size;have hm:=h.many;have ak:=h.len;have hk:j/8<qs.length:=by omega
 have dD:((L.drop (8*(j/8))).take 8).length=8:=by rw[hs,lg];omega
 unfold nn.bK;rw[aiR];refine aT (by omega) (aT (by omega) ?_);rw[ch,eS,dG];refine o.dv (j:=j%8) (v:=et z) (by omega) rfl λε aV σ=>?_;rw[<-rK]at σ;have oE:w0.heap.size<=t7:=(o.ge rfl).1;have aoS:η w0 ε:=J.then aV λi I=>I▸oE;have b1:∀i,i=t7->w0.heap.size<=i:=λi I=>I▸oE;have h1:∀W,η w0 W->A7 W b n L p c qs:=λW x=>h.ex x
 try dsimp only[bo]
 have ft:=aoS.trans (η.drew ε);have fe:=h1 ε.drew ft;simp only[dG];refine⟨n,fe.cell.at (j:=0) rfl,p,_,c,fe.cell.at (j:=1) rfl,?_⟩;refine κ.use (Zl p _ c (qs.map Value.pointer) ε.drew fe.row.cells (by simp) (by omega) (afF _)) ?_;rintro _ υ ⟨aX,c2,rfl,ρ,af⟩
 try dsimp only[ee]
 have ha:=ft.trans ρ;refine⟨(h1 υ ha).cell.at (j:=0) rfl,?_⟩;rintro ax χ rfl rfl;have bh:=μ.new (w:=υ) [.int .i64 (n:Int),.slice aX qs.length c2] u4;have ad:=η.alloc υ (.cells #[.int .i64 (n:Int),.slice aX qs.length c2] u4);generalize jm:υ.heap.size=ax at bh⊢;generalize υ.alloc (.cells #[.int .i64 (n:Int),.slice aX qs.length c2] u4)=χ at bh ad⊢;have iF:=ha.trans ad;refine⟨aX,_,c2,bh.at (j:=1) rfl,aT (by omega) (aT (by omega) ?_)⟩;have sl:=af.ex ad;obtain⟨ζ,rfl⟩:=μ.base sl (by omega)
 try dsimp only[bo]
 rw[ch,eS,dG];refine sl.dv (j:=j/8) (v:=.pointer (some ⟨t7,0,none⟩)) (by omega) rfl λao cI cJ=>?_;rw[<-rK]at cJ;have eG:=sl.typed rfl;have azj:ε.drew.heap.size<=ζ:=(af.ge rfl).1;have Ir:Kp υ ao λi=>i=ζ:=(ad.aO _).gL cI;have nW:η w0 ao:=ha.then Ir λi I=>by have:=ft.size;omega
 have uB:μ ao ax u4 2 (some ⟨ax,0,none⟩) 1 1 [.int .i64 (n:Int),.slice (some ⟨ζ,0,none⟩) qs.length c2]:=bh.cV cI wo (λi I=>I▸eG.1) (by decide);have tj:μ ao w0.heap.size y9 8 (some ⟨t7,0,none⟩) 1 1 ((((L.drop (8*(j/8))).take 8).set (j%8) z).map et):=(((σ.ex (η.drew ε)).ex ρ).ex ad).cV cI wo (λi I=>I▸eG.1) (by decide);have adK:(((L.drop (8*(j/8))).take 8).set (j%8) z).length=8:=by rw[hQ,dD]
 have aqw:∀x∈L.set j z,kH x:=λx J=>by
  rcases qh J with J|rfl
  ·exact h.ok x J
  ·exact aI
 have aqu:∀x∈((L.drop (8*(j/8))).take 8).set (j%8) z,kH x:=λx J=>by
  rcases qh J with J|rfl
  ·exact h.ok x (JO (xy J))
  ·exact aI
 rw[J9];refine κ.use (aoZ _ 8 8 _ ao tj.cells adK (by omega) aqu) ?_;rintro _ an ⟨rfl,iJ⟩;obtain rfl:=iJ.symm
 try dsimp only[dX]
 have s5:∀W,η w0 W->∀{gg:Nat}{qs':List γ},qs'.length=qs.length->μ W gg u4 2 (some ⟨gg,0,none⟩) 1 1 [.int .i64 (n:Int),.slice (some ⟨ζ,0,none⟩) qs.length c2]->μ W 0 wo 1 (some ⟨ζ,0,none⟩) qs.length c2 (qs'.map Value.pointer)->
   (∀(k:Nat)q,qs'[k]?=some q->(k=j/8/\KK W q (((L.drop (8*(j/8))).take 8).set (j%8) z))\/(k≠j/8/\qs[k]?=some q))->TabIs W (some ⟨gg,0,none⟩) n (L.set j z):=by
  intro W fX gg qs' l0 en atk mE;refine⟨gg,_,c2,qs',rfl,ar,by rw[hQ,l0];exact ak,by rw[l0];exact hm,aqw,by rw[l0];exact en.lower (eR _),by rw[l0];exact atk,λk q aH=>?_⟩;rw[amv];rcases mE k q aH with⟨rfl,hp⟩|⟨b1,hp⟩
  ·rw[aN rfl];exact hp
  ·rw[aL b1];exact((h.ex fX).bw k q hp)
 refine bt (λpg=>?_) (λaz7=>?_)
 ·have pg:(((L.drop (8*(j/8))).take 8).set (j%8) z).any Option.isSome=false:=by simpa using pg
  refine⟨some ⟨ζ,0,none⟩,_,c2,uB.at (j:=1) rfl,aT (by omega) (aT (by omega) ?_)⟩
  try dsimp only[bo]
  rw[dG];refine cJ.dv (j:=j/8) (v:=.pointer none) (by omega) rfl λaZ eD bY=>?_;rw[<-rK,List.set_set]at bY;have ZI:η w0 aZ:=nW.then eD λi I=>by rw[I];have:=ft.size;omega
  refine ω.mk ⟨_,rfl,ZI,s5 aZ ZI (qs':=qs.set (j/8) none) (by simp) (uB.cV eD wo (λi I=>I▸(cJ.typed rfl).1) (by decide)) (bY.lower (eR _)) λk q aH=>?_⟩;rw[List.getElem?_set]at aH;split at aH
  ·rename_i e;cases aH;exact .inl ⟨e.symm,.inl ⟨rfl,asI adK pg⟩⟩
  ·rename_i e;exact .inr ⟨λbM=>e bM.symm,aH⟩
 ·refine ω.mk ⟨_,rfl,nW,s5 ao nW (qs':=qs.set (j/8) (some ⟨t7,0,none⟩)) (by simp) uB (cJ.lower (eR _)) λk q aH=>?_⟩;rw[List.getElem?_set]at aH;split at aH
  ·rename_i e;cases aH;exact .inl ⟨e.symm,.inr ⟨t7,rfl,tj.lower (eR _)⟩⟩
  ·rename_i e;exact .inr ⟨λbM=>e bM.symm,aH⟩
def Ky:aY:=List.replicate 8 (.complex .f64 0 0)
def W5(j:Nat):aY:=List.replicate j (et none)++List.replicate (8-j) (.complex .f64 0 0)
theorem asn{j:Nat}(h:j<8):(W5 j).set j (et none)=W5 (j+1):=by
 match j,h with
 |0,_=>rfl
 |1,_=>rfl
 |2,_=>rfl
 |3,_=>rfl
 |4,_=>rfl
 |5,_=>rfl
 |6,_=>rfl
 |7,_=>rfl
 |n+8,h=>exact absurd h (by omega)
theorem ayB:∀y∈Ky,y.oneCell'=true:=λy ag=>by rw[nb ag];rfl
theorem agn{w:World}{ic:γ}{n:Nat}{L:List eK}(h:TabIs w ic n L){j:Nat}(ψ:j<n){z:eK}(aI:kH z):
  nn.C ic (j:Int) (eX z) (e5 z) w (ω λv w'=>∃oe,v=.pointer oe/\η w w'/\TabIs w' oe n (L.set j z)):=by
 apply nn.ok;unfold nn.main;refine κ.use (TK h ψ) ?_;rintro _ ε ⟨rfl,aP⟩;obtain rfl:=aP.symm;have gy:=h.len;have aH:=ack gy.2.2.2 j;have ade:j<L.length:=by omega
 generalize s8:L.getD j none=q at aH⊢;obtain⟨b,p,c,qs,rfl,h⟩:=h;have ar:=h.size;have hm:=h.many;have ak:=h.len;unfold et
 try dsimp only[bo,sV]
 rw[XN aH aI];refine bt (λhe=>?_) (λhe=>?_)
 ·have he:=b6 he;subst he;have qz:=η.drew w;have h1:=h.ex qz;simp only[dG];refine⟨n,h1.cell.at (j:=0) rfl,p,_,c,h1.cell.at (j:=1) rfl,?_⟩;refine κ.use (Zl p _ c (qs.map Value.pointer) w.drew h1.row.cells (by simp) (by omega) (afF _)) ?_;rintro _ υ ⟨aX,c2,rfl,ρ,af⟩
  try dsimp only[ee]
  refine⟨(h1.ex ρ).cell.at (j:=0) rfl,?_⟩;rintro ax χ rfl rfl;have bh:=μ.new (w:=υ) [.int .i64 (n:Int),.slice aX qs.length c2] u4;have ad:=η.alloc υ (.cells #[.int .i64 (n:Int),.slice aX qs.length c2] u4);generalize jm:υ.heap.size=ax at bh⊢;generalize υ.alloc (.cells #[.int .i64 (n:Int),.slice aX qs.length c2] u4)=χ at bh ad⊢;have ha:=qz.trans (ρ.trans ad);have kF:L.set j q=L:=by rw[<-s8,List.getD_eq_getElem?_getD,List.getElem?_eq_getElem ade];exact List.set_getElem_self ade
  rw[kF];exact ω.mk ⟨_,rfl,ha,ax,aX,c2,qs,rfl,ar,ak,hm,h.ok,bh.lower (eR _),(af.ex ad).lower (eR _),(h.ex ha).bw⟩
 ·rintro ζ aZ rfl rfl;have σ:=μ.new (w:=w) Ky y9;have θ:=η.alloc w (.cells Ky.toArray y9);have τ:w.heap.size<=w.heap.size:=dO _;generalize eG:w.heap.size=ζ at σ τ⊢;have Bk:(w.alloc (.cells #[(Value.complex .f64 0 0),(Value.complex .f64 0 0),(Value.complex .f64 0 0),(Value.complex .f64 0 0),(Value.complex .f64 0 0),(Value.complex .f64 0 0),(Value.complex .f64 0 0),(Value.complex .f64 0 0)] y9))=w.alloc (.cells Ky.toArray y9):=rfl;rw[Bk];generalize w.alloc (.cells Ky.toArray y9)=aZ at σ θ⊢;refine σ.put (cs:=Ky) rfl ayB λa8 hW eN=>?_;have aoT:η w a8:=θ.then hW λi I=>by omega
  unfold nn.bb;refine⟨λt0 t1 sw sv t7 t29 w'=>some ⟨b,0,none⟩=t0/\(j:Int)=t1/\eX z=sw/\e5 z=sv/\ζ=t7/\0<=t29/\t29<=8/\η w w'/\μ w' w.heap.size y9 8 (some ⟨ζ,0,none⟩) 1 1 (W5 t29.toNat),λ_ _ _ _ _ t29 _=>(8-t29).toNat,⟨rfl,rfl,rfl,rfl,rfl,by omega,by omega,aoT,eN.lower (by omega)⟩,?_⟩;rintro _ _ _ _ _ t29 w' ⟨rfl,rfl,rfl,rfl,rfl,aF,h1,J,o⟩;unfold nn.δ;obtain⟨i,rfl⟩:=eF aF;rw[ch]at o;refine bt (λI=>?_) (λI=>?_)
  ·have I:=b6 I;refine aT (by omega) (aT (by omega) ?_);rw[ch,eS,dG];refine o.dv (j:=i) (v:=et none) (by omega) rfl λbV fO e4=>?_;rw[asn (by omega)]at e4;rw[bS (x:=(i:Int)+1) (by omega) (by omega)];exact⟨⟨rfl,rfl,rfl,rfl,rfl,by omega,by omega,J.then fO λi I=>by omega,e4⟩,by((try dsimp only);omega)⟩
  ·have I:=dn I;obtain rfl:i=8:=by omega
   unfold nn.aV
   try dsimp only[bo]
   simp only[dG];have e2:=h.ex J;rw[YH (by omega)];refine⟨p,_,c,e2.cell.at (j:=1) rfl,aT (by omega) (aT (by omega) ?_)⟩;have hk:j/8<qs.length:=by omega
   obtain⟨a,aR,r⟩:=e2.row.cells.many (j:=j/8) (v:=.pointer qs[j/8]) (by rw[List.getElem?_map,List.getElem?_eq_getElem hk];rfl);refine hh aR ⟨_,by rw[ch,eS];exact r,?_⟩;rcases e2.bw (j/8) qs[j/8] (List.getElem?_eq_getElem hk)with⟨Mh,φ⟩|⟨cu,Mh,cB⟩
   ·rw[Mh,cond_neg (by rfl)];exact agm h J ψ aI (by rw[φ];exact o)
   ·rw[Mh,cond_pos (by rfl)];have dD:((L.drop (8*(j/8))).take 8).length=8:=by rw[hs,lg];omega
    refine hh rfl ⟨(((L.drop (8*(j/8))).take 8).map et).toArray,by simp only[fP,jM];exact dD,cB.cells,aT (by simp only[fP,jM];exact dD) ?_⟩;refine o.put (cs:=((L.drop (8*(j/8))).take 8).map et) (by rw[jM,dD]) (afA _) λbW iq iV=>?_;exact agm h (J.then iq λi I=>by omega) ψ aI iV
theorem agy{x:Nat×Nat}(h:hg x):kH (some x):=h
theorem Ph{x:Nat×Nat}(h:hg x):vq (eX (some x)) 0=some (eX (some x))/\vq (e5 (some x)) 0=some (e5 (some x)):=
 ⟨aar ⟨x.1,h.1⟩,aar ⟨x.2,by have:=h.2;omega⟩⟩
 where
 aar:∀a:_root_.Fin 24,vq (kx a.val) 0=some (kx a.val):=by decide+kernel
theorem KL{w:World}{ic:γ}{n:Nat}{L:List eK}(h:TabIs w ic n L){j:Nat}(ψ:j<n){x:Nat×Nat}(J:hg x):
  H5.C ic (j:Int) (eX (some x)) (e5 (some x)) w (ω λv w'=>∃oe,v=.tuple #[.pointer oe,.int .i64 0]/\η w w'/\TabIs w' oe n (L.set j (some x))):=by
 apply H5.ok;unfold H5.main;refine κ.use (YI h j) ?_;rintro _ _ ⟨rfl,rfl⟩;rw[aN (by omega)]
 try dsimp only[bL]
 rw[cond_neg (by rfl)];refine κ.use (A8 (some x) (agy J) _) ?_;rintro _ _ ⟨rfl,rfl⟩
 try dsimp only[dX]
 rw[cond_neg (by rfl),(Ph J).1,(Ph J).2]
 try dsimp only[bo]
 refine κ.use (agn h ψ (z:=some x) (agy J)) ?_;rintro _ ε ⟨oe,rfl,θ,h1⟩
 try dsimp only[n0]
 exact ω.mk ⟨oe,rfl,θ,h1⟩
theorem akf{w:World}{ic:γ}{n:Nat}{L:List eK}(h:TabIs w ic n L){j:Nat}(ψ:j<n):
  H3.C ic (j:Int) w (ω λv w'=>∃oe,v=.tuple #[.pointer oe,.int .i64 0]/\η w w'/\TabIs w' oe n (L.set j none)):=by
 apply H3.ok;unfold H3.main;refine κ.use (YI h j) ?_;rintro _ _ ⟨rfl,rfl⟩;rw[aN (by omega)]
 try dsimp only[bL]
 rw[cond_neg (by rfl)];refine κ.use (agn h ψ (z:=none) trivial) ?_;rintro _ ε ⟨oe,rfl,θ,h1⟩
 try dsimp only[n0]
 exact ω.mk ⟨oe,rfl,θ,h1⟩
theorem avW{L:List eK}{j:Nat}(h:j<L.length):L.take (j+1)=L.take j++[L.getD j none]:=by rw[mb h,List.getD_eq_getElem?_getD,List.getElem?_eq_getElem h];rfl
theorem ajP{w:World}{ic:γ}{n:Nat}{L:List eK}(h:TabIs w ic n L):pD.C ic w (ω λv w'=>∃q d,v=.slice q n d/\η w w'/\μ w' w.heap.size eT 1 q n d ((L.take n).map et)):=by
 have gy:=h.len;apply pD.ok;unfold pD.main;refine κ.use (KN h) ?_;rintro _ ε ⟨rfl,aP⟩;obtain rfl:=aP.symm
 try dsimp only[bL]
 unfold pD.bb;refine⟨λt0 de c3 dy t6 t7 w'=>ic=t0/\(n:Int)=t6/\0<=t7/\t7<=n/\t7=c3/\η w w'/\μ w' w.heap.size eT 1 de c3 dy ((L.take t7.toNat).map et),λ_ _ _ _ _ t7 _=>(n-t7).toNat,⟨rfl,rfl,by omega,by omega,rfl,η.refl _,μ.nil _ _ _ _⟩,?_⟩;rintro _ de c3 dy _ t7 w' ⟨rfl,rfl,aF,h1,aJ,J,o⟩;unfold pD.δ;obtain⟨i,rfl⟩:=eF aF;rw[ch]at o;obtain rfl:i=c3:=by omega
 refine bt (λI=>?_) (λI=>?_)
 ·have I:=b6 I;refine κ.use (TK (h.ex J) (j:=i) (by omega)) ?_;rintro _ an ⟨rfl,iJ⟩;obtain rfl:=iJ.symm;unfold et
  try dsimp only[sV]
  rintro δ ε rfl rfl;have θ:=η.alloc w' (.cells #[.complex .f64 (eX (L.getD i none)) (e5 (L.getD i none))] eT);have c1:bd (w'.alloc (.cells #[.complex .f64 (eX (L.getD i none)) (e5 (L.getD i none))] eT)) (some ⟨w'.heap.size,0,none⟩) [et (L.getD i none)]:=bd.alloc _ eT;generalize w'.alloc (.cells #[.complex .f64 (eX (L.getD i none)) (e5 (L.getD i none))] eT)=ε at θ c1⊢;refine mx (o.ex θ) (J.trans θ).size [et (L.getD i none)] c1 rfl (λy ag=>by simp only[ma]at ag;subst ag;rfl) rfl (by omega) (by omega) (λeo h0 bV e4 fO=>?_);rw[bS (x:=(i:Int)+1) (by omega) (by omega)];refine⟨⟨rfl,rfl,by omega,by omega,rfl,(J.trans θ).then fO λb⟨y,ag,τ⟩=>τ▸(o.ge ag).1,?_⟩,by((try dsimp only);omega)⟩;show μ bV _ _ _ _ _ _ ((L.take (i+1)).map et);rw[avW (by omega),ss];exact e4
 ·have I:=dn I;obtain rfl:i=n:=by omega
  exact ω.mk ⟨de,dy,rfl,J,o⟩
theorem ajO(w:World):pD.C none w (ω λv w'=>v=.slice none 0 0/\w'=w):=by
 apply pD.ok;unfold pD.main;refine κ.use (ala w) ?_;rintro _ ε ⟨rfl,aP⟩;obtain rfl:=aP.symm
 try dsimp only[bL]
 unfold pD.bb;refine⟨λt0 de c3 dy t6 t7 w'=>de=none/\c3=0/\dy=0/\t6=0/\t7=0/\w=w',λ_ _ _ _ _ _ _=>0,⟨rfl,rfl,rfl,rfl,rfl,rfl⟩,?_⟩;rintro _ _ _ _ _ _ _ ⟨rfl,rfl,rfl,rfl,rfl,rfl⟩;unfold pD.δ;rw[jl (by omega)];exact ω.mk ⟨rfl,rfl⟩
theorem μ.putAt{w:World}{B:Nat}{e:TypeId}{sz b n c:Nat}{xs:aY}(aG:μ w B e sz (some ⟨b,0,none⟩) n c xs)(o:Nat)(ys:aY)(ak:o+ys.length<=n*sz)(h1:∀y∈ys,y.oneCell'=true){N:al}
  (K:∀υ,Kp w υ (λi=>i=b)->μ υ B e sz (some ⟨b,0,none⟩) n c (xs.take o++ys++xs.drop (o+ys.length))->N υ):a6 w ((⟨b,0,none⟩:Addr).add o) ys/\∀υ,υ=w.setCells ((⟨b,0,none⟩:Addr).add o).block ((⟨b,0,none⟩:Addr).add o).off ys->N υ:=by
 obtain⟨aV,bK,b4⟩:=aG.writes o ys ak h1;refine⟨aV,λυ hw=>?_⟩;have p1:lM w (some ⟨b,0,none⟩) o ys=υ:=by rw[hw,dG];show w.setCells b (0+o) ys=_;rw[oh]
 rw[p1]at bK b4;exact K υ (b4.mono λi _⟨x,J,I⟩=>by cases J;exact I.symm) bK
def gB(R:bZ)(v:Int):Option gn:=if 0<=v/\v<8 then(R[v.toNat]?).filter λe=>decide (e.1≠0)else none
def mi(R:bZ):Option Nat:=R.findIdx? λe=>decide (e.1=0)
def j5(R:bZ)(v b:Nat)(q:eK):bZ:=match R[v]?with
 |some e=>R.set v (e.1,e.2.1,e.2.2.set b q)
 |none=>R
theorem Bm{R:bZ}{v:Int}{e:gn}(h:gB R v=some e):0<=v/\v<8/\R[v.toNat]?=some e/\e.1≠0:=by
 unfold gB at h;split at h
 ·rename_i az;cases φ:R[v.toNat]?with
  |none=>rw[φ]at h;simp at h
  |some x=>
   rw[φ,Nu]at h;split at h
   ·cases h;rename_i hk;exact⟨az.1,az.2,rfl,b6 hk⟩
   ·cases h
 ·cases h
theorem anG{R:bZ}{k:Nat}{e:gn}(hk:k<8)(he:R[k]?=some e)(h:e.1≠0):gB R (k:Int)=some e:=by unfold gB;rw[aN (by omega),ch,he,Nu,aN (bI h)]
theorem RZ{R:bZ}(dD:R.length=8){i:Nat}(h:mi R=some i):i<8/\∃e,R[i]?=some e/\e.1=0:=by unfold mi at h;obtain⟨bQ,hp,_⟩:=List.findIdx?_eq_some_iff_getElem.1 h;exact⟨by omega,R[i],List.getElem?_eq_getElem bQ,by simpa using hp⟩
def wL(w:World)(tp:γ)(e:gn):Prop:=(tp=none/\e.2.2=[])\/∃n L,TabIs w tp n L/\e.2.2=L.take n/\e.2.1=(n:Int)
structure sH(w:World)(B cf:Nat)(R:bZ)(gq:List γ):Prop where
 o:μ w B Cu 24 (some ⟨cf,0,none⟩) 1 1 (kinds R++gq.map Value.pointer)
 len:R.length=8
 jQ:gq.length=8
 tb:∀(k:Nat)(e:gn)(tp:γ),R[k]?=some e->gq[k]?=some tp->wL w tp e
def kM(w:World)(B cf:Nat)(R:bZ):Prop:=∃gq,sH w B cf R gq
theorem wL.aO{w w':World}{tp:γ}{e:gn}(h:wL w tp e){S:bl}(k:Kp w w' S)(ab:∀i,S i->¬tR w i):wL w' tp e:=by
 rcases h with h|⟨n,L,h1,ι⟩
 ·exact .inl h
 ·exact .inr ⟨n,L,h1.aO k ab,ι⟩
theorem wL.ex{w w':World}{tp:γ}{e:gn}(h:wL w tp e)(x:η w w'):wL w' tp e:=h.aO x λ_ h=>h.elim
theorem sH.aO{w w':World}{B cf:Nat}{R:bZ}{gq:List γ}(h:sH w B cf R gq){S:bl}(k:Kp w w' S)(hp:¬S cf)(ab:∀i,S i->¬tR w i):sH w' B cf R gq:=
 ⟨h.o.aO k λx J I=>by cases J;exact hp I,h.len,h.jQ,λi e tp he aS=>(h.tb i e tp he aS).aO k ab⟩
theorem sH.ex{w w':World}{B cf:Nat}{R:bZ}{gq:List γ}(h:sH w B cf R gq)(x:η w w'):sH w' B cf R gq:=h.aO x (λh=>h) λ_ h=>h.elim
theorem kM.aO{w w':World}{B cf:Nat}{R:bZ}(h:kM w B cf R){S:bl}(k:Kp w w' S)(hp:¬S cf)(ab:∀i,S i->¬tR w i):kM w' B cf R:=by obtain⟨t,h⟩:=h;exact⟨t,h.aO k hp ab⟩
theorem kM.ex{w w':World}{B cf:Nat}{R:bZ}(h:kM w B cf R)(x:η w w'):kM w' B cf R:=h.aO x (λh=>h) λ_ h=>h.elim
theorem kM.typed{w:World}{B cf:Nat}{R:bZ}(h:kM w B cf R):Typed w Cu cf/\B<=cf/\cf<w.heap.size:=by obtain⟨t,h⟩:=h;exact h.o.typed rfl
theorem Yc{w:World}{i:Nat}(h:Typed w Cu i):¬tR w i:=by
 rintro(t|t|t)
 ·exact h.ne t (by decide) rfl
 ·exact h.ne t (by decide) rfl
 ·exact h.ne t (by decide) rfl
def oZ(w:World)(B cf:Nat)(R:bZ)(w':World):Prop:=kM w' B cf R/\Kp w w' λi=>i=cf
theorem p6{R:bZ}(h:R.length=8):(kinds R).length=16:=by rw[BP,h]
theorem sH.oA{w:World}{B cf:Nat}{R:bZ}{gq:List γ}(h:sH w B cf R gq){k:Nat}{e:gn}(he:R[k]?=some e):(kinds R++gq.map Value.pointer)[k*2]?=some (.int .i64 e.1)/\(kinds R++gq.map Value.pointer)[k*2+1]?=some (.int .i64 e.2.1)/\((kinds R++gq.map Value.pointer).drop (k*2)).take 2=two e.1 e.2.1:=by
 have hk:k<8:=by have:=(List.getElem?_eq_some_iff.1 he).1;rw[h.len]at this;exact this
 obtain⟨t,aS⟩:=WO R k e he;have Bq:=p6 h.len;have ah:(kinds R++gq.map Value.pointer).drop (k*2)=two e.1 e.2.1++(t++gq.map Value.pointer):=by rw[DT (by omega),aS,nc]
 refine⟨?_,?_,by rw[ah];rfl⟩
 ·have:=hr (λl=>l[0]?) ah
  rw[List.getElem?_drop]at this;exact this
 ·have:=hr (λl=>l[1]?) ah
  rw[List.getElem?_drop]at this;exact this
theorem sH.Ki{w:World}{B cf:Nat}{R:bZ}{gq:List γ}(h:sH w B cf R gq){k:Nat}{tp:γ}(aS:gq[k]?=some tp):(kinds R++gq.map Value.pointer)[16+k]?=some (.pointer tp):=by rw[List.getElem?_append_right (by rw[p6 h.len];omega),p6 h.len,JW,List.getElem?_map,aS];rfl
theorem sH.Kk{w:World}{B cf:Nat}{R:bZ}{gq:List γ}(h:sH w B cf R gq){k:Nat}(hk:k<8):∃e tp,R[k]?=some e/\gq[k]?=some tp:=
 ⟨R[k]'(by rw[h.len];exact hk),gq[k]'(by rw[h.jQ];exact hk),List.getElem?_eq_getElem _,List.getElem?_eq_getElem _⟩
theorem NJ{R:bZ}(dD:R.length=8)(qs:aY)(k:Nat)(v:Value):(kinds R++qs).set (16+k) v=kinds R++qs.set k v:=by rw[Cf _ _ (by rw[p6 dD];omega),p6 dD,JW]
theorem sH.kz{w:World}{B cf:Nat}{R:bZ}{gq:List γ}(h:sH w B cf R gq){i:Nat}(I:i<8)(e:gn){tp:γ}(aS:wL w tp e){N:al}(K:∀w',oZ w B cf (R.set i e) w'->N w'):
  a6 w ((⟨cf,0,none⟩:Addr).add (i*2)) [.int .i64 e.1,.int .i64 e.2.1]/\∀υ,υ=w.setCells ((⟨cf,0,none⟩:Addr).add (i*2)).block ((⟨cf,0,none⟩:Addr).add (i*2)).off [.int .i64 e.1,.int .i64 e.2.1]->
   ((υ.cell? (⟨cf,16+i,none⟩:Addr)).isSome=true/\υ.frozen? (⟨cf,16+i,none⟩:Addr)=false/\∀χ,χ=υ.setCell (⟨cf,16+i,none⟩:Addr) (.pointer tp)->N χ):=by
 refine μ.putAt h.o (i*2) (two e.1 e.2.1) (by show i*2+2<=1*24;omega) nP λυ bK af=>?_;rw[Yt h.len I e.1 e.2.1 e.2.2]at af;refine af.dv (j:=16+i) (by omega) rfl λχ b4 bh=>?_;rw[NJ (by rw[hQ];exact h.len),<-rK]at bh;have Tg:=bK.gL b4;have Ab:∀j,j=cf->¬tR w j:=λj ψ=>Yc (ψ▸(h.o.typed rfl).1);refine K χ ⟨⟨gq.set i tp,bh,by rw[hQ];exact h.len,by rw[hQ];exact h.jQ,λk db YJ ej k9=>?_⟩,Tg⟩;rw[List.getElem?_set]at ej k9;by_cases rq:i=k
 ·rw[aN rq,aN (by rw[h.len];omega)]at ej;rw[aN rq,aN (by rw[h.jQ];omega)]at k9;cases ej;cases k9;exact aS.aO Tg Ab
 ·rw[aL rq]at ej k9;exact(h.tb k db YJ ej k9).aO Tg Ab
theorem akF(w:World):Hh.C w (ω λv w'=>v=.pointer (some ⟨w.heap.size,0,none⟩)/\η w w'/\kM w' w.heap.size w.heap.size (cH [])):=by
 apply Hh.ok;unfold Hh.main;rintro δ ε rfl rfl;have σ:=μ.new (w:=w) (kinds (cH [])++(List.replicate 8 (none:γ)).map Value.pointer) Cu;refine ω.mk ⟨rfl,η.alloc w _,List.replicate 8 none,σ,rfl,rfl,λk e tp he aS=>.inl ⟨?_,?_⟩⟩
 ·exact nb (fa aS)
 ·have:e=Ik:=nb (n:=8) (fa he)
  rw[this]
def iT(R:bZ)(v:Int):Int×Int×Int:=match gB R v with
 |some e=>(e.1,e.2.1,0)
 |none=>(0,0,4)
theorem CE{w:World}{B cf:Nat}{R:bZ}(h:kM w B cf R)(v:Int):Hj.C (some ⟨cf,0,none⟩) v w (ω λu w'=>u=.tuple #[.agg (two (iT R v).1 (iT R v).2.1).toArray,.int .i64 (iT R v).2.2]/\η w w'):=by
 obtain⟨gq,h⟩:=h;apply Hj.ok;unfold Hj.main;rintro δ ε rfl rfl;have σ:=μ.new (w:=w) (two 0 0) jR;have θ:=η.alloc w (.cells (two 0 0).toArray jR);have aP:w.alloc (.cells #[.int .i64 0,.int .i64 0] jR)=w.alloc (.cells (two 0 0).toArray jR):=rfl;rw[aP];generalize w.alloc (.cells (two 0 0).toArray jR)=ε at σ θ⊢;have h1:=h.ex θ;generalize τ:w.heap.size=b at σ;have τ:w.heap.size<=b:=by omega
 have fin:∀(a c e:Int),(two (iT R v).1 (iT R v).2.1,(iT R v).2.2)=(two a c,e)->(a6 ε (⟨b,0,none⟩:Addr) (two a c)/\∀χ,χ=ε.setCells (⟨b,0,none⟩:Addr).block (⟨b,0,none⟩:Addr).off (two a c)->
  (∃(bz:aj),bz.size=2/\aB χ (⟨b,0,none⟩:Addr) bz.toList/\(ω λu w'=>u=.tuple #[.agg (two (iT R v).1 (iT R v).2.1).toArray,.int .i64 (iT R v).2.2]/\η w w') (.returned (Value.tuple #[(Value.agg bz),.int .i64 e])) χ)):=by
  intro a c e he;refine σ.put (cs:=two a c) rfl nP λυ bK af=>⟨(two a c).toArray,rfl,af.cells,ω.mk ⟨?_,θ.then bK λi I=>by omega⟩⟩;have zT:=hr Prod.fst he;have mD:=hr Prod.snd he;dsimp only at zT mD;rw[zT,mD]
 have bad:gB R v=none->(two (iT R v).1 (iT R v).2.1,(iT R v).2.2)=(two 0 0,4):=λe=>by unfold iT;rw[e]
 rw[cond_neg (by rfl)];refine bt (λaF=>fin 0 0 4 (bad (by unfold gB;rw[aL (by have:=b6 aF;omega)]))) (λaF=>?_);refine bt (λdD=>fin 0 0 4 (bad (by unfold gB;rw[aL (by have:=b6 dD;omega)]))) (λdD=>?_);have aF:=dn aF;have dD:=dn dD;obtain⟨k,rfl⟩:=eF (show 0<=v by omega);obtain⟨e,tp,he,aS⟩:=h1.Kk (k:=k) (by omega);obtain⟨c1,c2,bP⟩:=h1.oA he
 try dsimp only[bo]
 refine aT (by omega) (aT (by omega) ?_);simp only[dG,ch];refine⟨e.1,h1.o.at c1,bt (λaI=>fin 0 0 4 (bad ?_)) (λaI=>?_)⟩
 ·unfold gB;rw[aN (by omega),ch,he]
  have:e.1=0:=by simpa using aI
  simp[this]
 ·have aI:e.1≠0:=by simpa using aI
  refine aT (by omega) (aT (by omega) ?_);refine⟨(two e.1 e.2.1).toArray,rfl,?_,aT rfl (fin e.1 e.2.1 0 ?_)⟩
  ·have:=(aB.drop (w:=ε) (a:=(⟨cf,0,none⟩:Addr)) h1.o.cells (k*2))
   rw[dG]at this
   have:=bd.take (w:=ε) (a:=some _) this 2
   rw[bP]at this;exact this
  ·unfold iT;rw[anG (by omega) he aI]
theorem agz{w:World}{B cf:Nat}{R:bZ}(h:kM w B cf R):Hm.C (some ⟨cf,0,none⟩) w (ω λu w'=>u=.tuple #[.int .i64 ((mi R).getD 0:Nat),.int .i64 (if(mi R).isSome then 0 else 7)]/\η w w'):=by
 obtain⟨gq,h⟩:=h;apply Hm.ok;unfold Hm.main
 try dsimp only[bo]
 rw[J9];have dD:=h.len;refine κ.use (S:=λu w'=>u=.int .i64 (match mi R with|some i=>(i:Int)|none=>-1)/\η w w') ?_ ?_
 ·apply vi.ok;unfold vi.main vi.bb;refine⟨λcy cp cG t7 t8 w'=>some ⟨cf,0,none⟩=cy/\8=cp/\8=t7/\0<=t8/\t8<=8/\η w w'/\∀(j:Nat)(e:gn),j<t8.toNat->R[j]?=some e->e.1≠0,λ_ _ _ _ t8 _=>(8-t8).toNat,⟨rfl,rfl,rfl,by omega,by omega,η.refl w,λj e ψ=>by omega⟩,?_⟩;rintro _ _ cG _ t8 w' ⟨rfl,rfl,rfl,aF,h1,J,ew⟩;unfold vi.δ;obtain⟨k,rfl⟩:=eF aF;rw[ch]at ew;refine bt (λhk=>?_) (λhk=>?_)
  ·have hk:=b6 hk;obtain⟨e,tp,he,aS⟩:=h.Kk (k:=k) (by omega);obtain⟨c1,c2,bP⟩:=h.oA he;refine aT (by omega) (aT (by omega) ?_)
   try dsimp only[bo]
   simp only[ch];refine⟨(two e.1 e.2.1).toArray,rfl,?_,?_⟩
   ·have:=(aB.drop (w:=w') (a:=(⟨cf,0,none⟩:Addr)) (h.ex J).o.cells (k*2))
    have:=bd.take (w:=w') (a:=some _) this 2
    rw[bP]at this;exact this
   refine κ.use (S:=λu υ=>u=.bool (e.1==0)/\η w' υ) ?_ ?_
   ·apply J3.ok;unfold J3.main;rintro δ ε rfl rfl;have σ:=μ.new (w:=w') (two e.1 e.2.1) jR;exact⟨e.1,σ.at (j:=0) rfl,ω.mk ⟨rfl,η.alloc w' _⟩⟩
   rintro _ υ ⟨rfl,ρ⟩
   try dsimp only[dX]
   refine bt (λaI=>ω.mk ⟨?_,J.trans ρ⟩) (λaI=>?_)
   ·have:mi R=some k:=by
     unfold mi;refine List.findIdx?_eq_some_iff_getElem.2 ⟨by omega,?_,λj ψ=>?_⟩
     ·have:=(List.getElem?_eq_some_iff.1 he).2
      rw[this];simpa using aI
     ·have:=ew j R[j] ψ (List.getElem?_eq_getElem _)
      simpa using this
    rw[this]
   ·rw[bS (x:=(k:Int)+1) (by omega) (by omega)];refine⟨⟨by trivial,by trivial,by trivial,by omega,by omega,J.trans ρ,λj db ψ ej=>?_⟩,by((try dsimp only);omega)⟩;rcases JU j k with h|h
    ·exact ew j db h ej
    ·have:j=k:=by omega
     subst this;rw[he]at ej;cases ej;simpa using aI
  ·have hk:=dn hk
   have:mi R=none:=by
    unfold mi;rw[List.findIdx?_eq_none_iff];intro e he;obtain⟨j,ψ,rfl⟩:=RD.1 he
    have:=ew j R[j] (by omega) (List.getElem?_eq_getElem _)
    simpa using this
   rw[this];exact ω.mk ⟨rfl,J⟩
 rintro _ ε ⟨rfl,θ⟩
 try dsimp only[bL]
 cases ab:mi R with
 |none=>rw[vv (by decide)];exact ω.mk ⟨rfl,θ⟩
 |some i=>rw[jl (by dsimp only;omega)];exact ω.mk ⟨rfl,θ⟩
end Go.Proofs.YtcpdfhkhaekekaaGreat.G.eI
namespace Go.Proofs.YtcpdfhkhaekekaaGreat.G.cF
open Go.bJ Go.RowKit
def xf(k:Int)(live:aq)(but:Int)(i:Nat):Bool:=decide (0<live.getD i 0)&&decide (live.getD i 0<k)&&decide ((i:Int)≠but)
def hV(k:Int)(live:aq)(but:Int)(n:Nat):List Nat:=(List.range n).filter (xf k live but)
def sm(k:Int)(live jd:aq)(c:List Nat):aq:=c.map λi=>(k-live.getD i 0)*(jd.getD i 0+1)
def sA(k:Int)(live:aq)(c:List Nat):aq:=c.map λi=>k+live.getD i 0
def tn(k:Int)(live jd:aq)(but:Int):Option Nat:=
 let c:=hV k live but live.length
 if c=[]then none else some (c.getD (r8 (sm k live jd c) (sA k live c) c.length) 0)
theorem abb(k:Int)(live:aq)(but:Int)(n:Nat):hV k live but (n+1)=hV k live but n++if xf k live but n then[n]else[]:=by
 unfold hV;rw[v8,DQ];congr 1;by_cases h:xf k live but n=true
 ·simp[h]
 ·simp[h]
theorem aba{k:Int}{live:aq}{but:Int}{n:Nat}:∀i∈hV k live but n,i<n/\xf k live but i=true:=λi I=>by unfold hV at I;rw[nN,lh]at I;exact I
theorem amn(k:Int)(live:aq)(but:Int)(n:Nat):(hV k live but n).length<=n:=by unfold hV;exact gE (X0 _ _) (by simp)
def pJ(p q:γ):Prop:=∀x y,p=some x->q=some y->x.block≠y.block
structure xY(w0 w:World)(p q r:γ)(n c1 c2 bP:Nat)(xs ys lR:aq):Prop where
 σ:μ w w0.heap.size cz 1 p n c1 (bA.cW xs)
 af:μ w w0.heap.size cz 1 q n c2 (bA.cW ys)
 bh:μ w w0.heap.size cz 1 r n bP (bA.cW lR)
 a12:pJ p q
 Iy:pJ p r
 a23:pJ q r
theorem xY.ex{w0 w w':World}{p q r:γ}{n c1 c2 bP:Nat}{xs ys lR:aq}(h:xY w0 w p q r n c1 c2 bP xs ys lR)(x:η w w'):xY w0 w' p q r n c1 c2 bP xs ys lR:=⟨h.σ.ex x,h.af.ex x,h.bh.ex x,h.a12,h.Iy,h.a23⟩
theorem TH{w:World}{B:Nat}{p:γ}{n c:Nat}{xs:aq}(o:μ w B cz 1 p n c (bA.cW xs))(eh:B<=w.heap.size)(ar:n<=100000)(x:Int){N:γ->Nat->al}
  (K:∀b5 aW w',μ w' B cz 1 b5 (n+1) aW (bA.cW (xs++[x]))->Kp w w' (λi=>∃a,p=some a/\a.block=i)->(b5=p\/∀a,b5=some a->w.heap.size<=a.block)->N b5 aW w'):
  aK w #[.int .i64 x] cz λb ε=>ho ε p n c 1 (bd ε (some ⟨b,0,none⟩)) cz 1 8 #[.int .i64 0] N:=by
 rintro δ ε rfl rfl;have θ:=η.alloc w (.cells #[.int .i64 x] cz);have c1:bd (w.alloc (.cells #[.int .i64 x] cz)) (some ⟨w.heap.size,0,none⟩) [.int .i64 x]:=bd.alloc _ cz;generalize w.alloc (.cells #[.int .i64 x] cz)=ε at θ c1⊢;refine CM (o.ex θ) (gE eh θ.size) [.int .i64 x] c1 rfl (λy ag=>by simp only[ma]at ag;subst ag;rfl) rfl (by omega) (by omega) (λeo h0 bV e4 fO hp=>K eo h0 bV ?_ ((θ.aO _).gL fO) ?_)
 ·have:bA.cW (xs++[x])=bA.cW xs++[.int .i64 x]:=by simp[bA.cW]
  rw[this];exact e4
 ·rcases hp with hp|hp
  ·exact .inl hp
  ·exact .inr λa aR=>gE θ.size (hp a aR)
theorem EG{w:World}{B n c:Nat}{p b5 q:γ}{xs:aY}(h:pJ p q)(hp:b5=p\/∀a,b5=some a->w.heap.size<=a.block)(o:μ w B cz 1 q n c xs):pJ b5 q:=by
 rcases hp with rfl|hp
 ·exact h
 ·intro x y J ag
  have:=hp x J
  have:=(o.ge ag).2
  omega
theorem pJ.symm{p q:γ}(h:pJ p q):pJ q p:=λx y J ag e=>h y x ag J e.symm
theorem Jk{w w':World}{B n c:Nat}{p q:γ}{xs:aY}(o:μ w B cz 1 q n c xs)(k:Kp w w' λi=>∃a,p=some a/\a.block=i)(h:pJ p q):μ w' B cz 1 q n c xs:=
 o.aO k λx J⟨a,aR,e⟩=>h a x aR J e
theorem xY.push{w0 w:World}{p q r:γ}{n c1 c2 bP:Nat}{xs ys lR:aq}(h:xY w0 w p q r n c1 c2 bP xs ys lR)(J:η w0 w)(ar:n<=100000)(x y z:Int){N:γ->Nat->γ->Nat->γ->Nat->al}
  (K:∀b5 d1 qf d2 qK d3 w',xY w0 w' b5 qf qK (n+1) d1 d2 d3 (xs++[x]) (ys++[y]) (lR++[z])->η w0 w'->N b5 d1 qf d2 qK d3 w'):
  aK w #[.int .i64 x] cz λax aZ=>ho aZ p n c1 1 (bd aZ (some ⟨ax,0,none⟩)) cz 1 8 #[.int .i64 0] λae d1 a8=>
  aK a8 #[.int .i64 y] cz λaa bV=>ho bV q n c2 1 (bd bV (some ⟨aa,0,none⟩)) cz 1 8 #[.int .i64 0] λaX d2 bW=>
  aK bW #[.int .i64 z] cz λcu c4=>ho c4 r n bP 1 (bd c4 (some ⟨cu,0,none⟩)) cz 1 8 #[.int .i64 0] λbj d3 cd=>N ae d1 aX d2 bj d3 cd:=by
 have ab:=J.size;have low:∀{W:World}{p:γ}{c:Nat}{l:aq},μ W w0.heap.size cz 1 p n c (bA.cW l)->∀i,(∃a,p=some a/\a.block=i)->w0.heap.size<=i:=λo i⟨a,aR,I⟩=>I▸(o.ge aR).1;refine TH h.σ ab ar x λae d1 a8 σ aV BD=>?_;have af:=Jk h.af aV h.a12;have bh:=Jk h.bh aV h.Iy;have aU:=J.then aV (low h.σ);have a12:=EG h.a12 BD h.af;have Iy:=EG h.Iy BD h.bh;refine TH af aU.size ar y λaX d2 bW sl bK p0=>?_;have a12:=(EG a12.symm p0 σ).symm;have a23:=EG h.a23 p0 bh;have σ:=Jk σ bK (EG h.a12 BD h.af).symm;have uB:=Jk bh bK h.a23;have ct:=aU.then bK (low af);refine TH uB ct.size ar z λbj d3 cd asX b4 ph=>?_;have eW:=ct.then b4 (low uB);exact K ae d1 aX d2 bj d3 cd ⟨Jk σ b4 Iy.symm,Jk sl b4 a23.symm,asX,a12,(EG Iy.symm ph σ).symm,(EG a23.symm ph sl).symm⟩ eW
theorem PN{l:aq}{i:Nat}(h:i<l.length):l.getD i 0∈l:=fa (FG h)
theorem ats(k:Int)(live jd:aq)(c:List Nat)(i:Nat):sm k live jd (c++[i])=sm k live jd c++[(k-live.getD i 0)*(jd.getD i 0+1)]:=by simp[sm]
theorem ayb(k:Int)(live:aq)(c:List Nat)(i:Nat):sA k live (c++[i])=sA k live c++[k+live.getD i 0]:=by simp[sA]
def AV(c:List Nat):aq:=c.map λ(i:Nat)=>(i:Int)
theorem akS{w:World}{s k:Int}(hm:bA.may s k=true){p q bp:γ}{n c d bc:Nat}{live jd:aq}{but:Int}(ak:bd w p (bA.cW live))(aR:bd w q (bA.cW jd))(τ:bd w bp (bA.cW [but]))(zY:live.length=n)(azh:jd.length=n)(ab:(n:Int)=s)
  (L5:∀x∈live,0<=x/\x<=k)(LK:∀x∈jd,0<=x/\x<65536):
  jD.C s k p n c q n d bp 1 bc w (ω λv w'=>v=(match tn k live jd but with|none=>.tuple #[.int .i64 0,.int .i64 4]|some g=>.tuple #[.int .i64 (g:Int),.int .i64 0])/\η w w'):=by
 have h8:6<=s/\s<=24/\2<=k/\k<=16:=by unfold bA.may at hm;simp at hm;omega
 have Wc:tn k live jd but=let c:=hV k live but n;if c=[]then none else some (c.getD (r8 (sm k live jd c) (sA k live c) c.length) 0):=by unfold tn;rw[zY]
 apply jD.ok;unfold jD.main;rintro δ ε eL rfl;have σ:=μ.new (w:=w) (two s k) b2;rw[<-eL]at σ;have θ:=η.alloc w (.cells (two s k).toArray b2);have aP:w.alloc (.cells #[.int .i64 s,.int .i64 k] b2)=w.alloc (.cells (two s k).toArray b2):=rfl;rw[aP];generalize w.alloc (.cells (two s k).toArray b2)=ε at σ θ⊢;refine⟨(two s k).toArray,rfl,σ.cells,?_⟩;refine κ.use (amP hm (ak.ex θ) zY ab L5) ?_;rintro _ υ ⟨rfl,ρ⟩
 try dsimp only[dX]
 have σ:=σ.ex ρ;have ft:=θ.trans ρ;have asR:=σ;refine⟨s,σ.at (j:=0) rfl,?_⟩;rw[cond_neg (by simp[ab])];unfold jD.bb
 refine⟨λdw dh ef de c3 dy t4 fH fq fQ j6 kl kk ir fZ iQ ln ll mJ t34 t35 w'=>q=dw/\n=dh/\bp=de/\1=c3/\δ=t4/\p=ln/\n=ll/\(n:Int)=t34/\0<=t35/\t35<=n/\η w w'/\μ w' δ b2 2 (some ⟨δ,0,none⟩) 1 1 (two s k)/\fZ=fq/\fZ=kl/\fZ=(hV k live but t35.toNat).length/\
   xY υ w' fH j6 ir fZ fQ kk iQ (sm k live jd (hV k live but t35.toNat)) (sA k live (hV k live but t35.toNat)) (AV (hV k live but t35.toNat))/\η υ w',
  λ_ _ _ _ _ _ _ _ _ _ _ _ _ _ _ _ _ _ _ _ t35 _=>(n-t35).toNat,⟨rfl,rfl,rfl,rfl,rfl,rfl,rfl,rfl,by omega,by omega,ft,σ,rfl,rfl,rfl,⟨μ.nil _ _ _ _,μ.nil _ _ _ _,μ.nil _ _ _ _,(λx y h=>by cases h),(λx y h=>by cases h),(λx y h=>by cases h)⟩,η.refl _⟩,?_⟩
 rintro _ _ ef _ _ dy _ fH fq fQ j6 kl kk ir fZ iQ _ _ mJ _ t35 w' ⟨rfl,rfl,rfl,rfl,rfl,rfl,rfl,rfl,aF,h1,J,σ,rfl,rfl,vH,fe,kr⟩;unfold jD.δ;obtain⟨i,rfl⟩:=eF aF;rw[ch]at fe vH;have LY:=amn k live but i;have l2:IntKind.i64.wrap ((i:Int)+1)=((i+1:Nat):Int):=by rw[bS (by omega) (by omega)];rfl
 refine bt (λI=>?_) (λI=>?_)
 ·have I:=b6 I;have lZ:i<n:=by omega
  obtain⟨aw,aP,cM⟩:=(ak.ex J).many (bA.vO (FG (l:=live) (i:=i) (by omega)));obtain⟨a2,bM,fC⟩:=((aR.ex J).ex (η.drew w')).many (bA.vO (FG (l:=jd) (i:=i) (by omega)));have ael:=L5 _ (PN (l:=live) (i:=i) (by omega));have aax:=LK _ (PN (l:=jd) (i:=i) (by omega));refine aT (by omega) (aT (by omega) (hh aP ⟨_,by rw[ch,eS];exact cM,k,(σ.ex (η.drew w')).at (j:=1) rfl,?_⟩));refine aT (by omega) (aT (by omega) (hh bM ⟨_,by rw[ch,eS];exact fC,?_⟩));generalize gy:live.getD i 0=L at ael cM⊢;generalize cc:jd.getD i 0=A at aax fC⊢;refine κ.use (ak2 (by omega) ael aax _) ?_;rintro _ ao ⟨rfl,jE⟩;obtain rfl:=jE.symm
  try dsimp only[ca,cT,cU,n1,bo,bL]
  rw[cond_neg (by rfl)];have B0:∀W,η υ W->μ W δ b2 2 (some ⟨δ,0,none⟩) 1 1 (two s k):=λW wA=>asR.ex wA;have eb:=η.drew w';have J:=J.trans eb;have kr:=kr.trans eb;have σ:=σ.ex eb;have fe:=fe.ex eb;generalize w'.drew=w' at J kr σ fe⊢;unfold jD.eZ;refine⟨λdw dh Cn de c3 y7 t4 axV axU axT axY axX axW ax1 ax0 axZ t13 t14 t15 t16 ln ll Co t34 t35 AG AF Cs t56 t57 W=>jd.length=jd.length/\q=dw/\n=dh/\bp=de/\1=c3/\δ=t4/\fH=axV/\fZ=axU/\fQ=axT/\j6=axY/\fZ=axX/\kk=axW/\ir=ax1/\fZ=ax0/\iQ=axZ/\(i:Int)=t13/\L=t14/\(k-L)*(A+1)=t15/\k+L=t16/\p=ln/\n=ll/\(n:Int)=t34/\(i:Int)=t35/\bp=AG/\1=AF/\t56=1/\(t57=0\/t57=1/\(i:Int)≠but)/\w'=W,
   λ_ _ _ _ _ _ _ _ _ _ _ _ _ _ _ _ _ _ _ _ _ _ _ _ _ _ _ _ _ t57 _=>(1-t57).toNat,⟨rfl,rfl,rfl,rfl,rfl,rfl,rfl,rfl,rfl,rfl,rfl,rfl,rfl,rfl,rfl,rfl,rfl,rfl,rfl,rfl,rfl,rfl,rfl,rfl,rfl,rfl,.inl rfl,rfl⟩,?_⟩
  rintro _ _ Cn _ _ y7 _ _ _ _ _ _ _ _ _ _ _ _ _ _ _ _ Co _ _ _ _ Cs _ t57 W ⟨-,rfl,rfl,rfl,rfl,rfl,rfl,rfl,rfl,rfl,rfl,rfl,rfl,rfl,rfl,rfl,rfl,rfl,rfl,rfl,rfl,rfl,rfl,rfl,rfl,rfl,aoy,rfl⟩;unfold jD.ζ;rw[l2];have same:xf k live but i=false->hV k live but (i+1)=hV k live but i:=λe=>by rw[abb,e];simp
  rcases aoy with rfl|⟨rfl,b1⟩
  ·rw[vv (by omega)];obtain⟨a3,gA,iY⟩:=(τ.ex J).one rfl;refine aT (by omega) (aT (by omega) (hh gA ⟨but,?_,?_⟩))
   ·rw[show(0:Int).toNat*1=0 from rfl,Addr.add_zero'];exact iY
   refine bt (λpW=>?_) (λpW=>?_)
   ·have pW:but=(i:Int):=by simpa using pW
    have e:=same (by unfold xf;simp[pW]);refine⟨⟨rfl,rfl,rfl,rfl,rfl,rfl,rfl,rfl,by omega,by omega,J,σ,rfl,rfl,?_,?_,kr⟩,by((try dsimp only);omega)⟩
    ·show fZ=(hV k live but (i+1)).length;rw[e];exact vH
    ·show xY υ w' _ _ _ _ _ _ _ (sm k live jd (hV k live but (i+1))) (sA k live (hV k live but (i+1))) (AV (hV k live but (i+1)));rw[e];exact fe
   ·have pW:but≠(i:Int):=by simpa using pW
    exact⟨⟨rfl,rfl,rfl,rfl,rfl,rfl,rfl,rfl,rfl,rfl,rfl,rfl,rfl,rfl,rfl,rfl,rfl,rfl,rfl,rfl,rfl,rfl,rfl,rfl,rfl,rfl,.inr ⟨rfl,λe=>pW e.symm⟩,rfl⟩,(by dsimp only;decide)⟩
  ·rw[jl (by omega)];have aa9:xf k live but i=(decide (0<L)&&decide (L<k)):=by unfold xf;rw[gy,bI b1,Bool.and_true]
   unfold jD.aV
   have go:∀b,b=xf k live but i->jD.bK q n Cn bp 1 y7 δ fH fZ fQ j6 fZ kk ir fZ iQ (i:Int) ((k-L)*(A+1)) (k+L) p n Co (n:Int) (i:Int) b w' (ω λv w'=>v=(match tn k live jd but with|none=>.tuple #[.int .i64 0,.int .i64 4]|some g=>.tuple #[.int .i64 (g:Int),.int .i64 0])/\η w w') (λHW HV Cn Cq Cp y7 y8 HO HN HM HR HQ HP HT Ay HS HY HX Co HZ wk SJ=>(q=HW/\n=HV/\bp=Cq/\1=Cp/\δ=y8/\p=HY/\n=HX/\(n:Int)=HZ/\0<=wk/\wk<=n/\η w SJ/\μ SJ δ b2 2 (some ⟨δ,0,none⟩) 1 1 (two s k)/\Ay=HN/\Ay=HQ/\Ay=(hV k live but wk.toNat).length/\
     xY υ SJ HO HR HT Ay HM HP HS (sm k live jd (hV k live but wk.toNat)) (sA k live (hV k live but wk.toNat)) (AV (hV k live but wk.toNat))/\η υ SJ)/\(n-wk).toNat<(n-(i:Int)).toNat):=by
    rintro b rfl;unfold jD.bK;rw[l2];refine bt (λπ=>?_) (λπ=>?_)
    ·have Lj:hV k live but (i+1)=hV k live but i++[i]:=by rw[abb,π];rfl
     refine fe.push kr (by omega) _ _ _ λae d1 aX d2 bj d3 W fX Jf=>?_;have Qy:η w W:=ft.trans Jf;refine⟨⟨rfl,rfl,rfl,rfl,rfl,rfl,rfl,rfl,by omega,by omega,Qy,?_,rfl,rfl,?_,?_,Jf⟩,by((try dsimp only);omega)⟩
     ·exact B0 W Jf
     ·show fZ+1=(hV k live but (i+1)).length;rw[Lj,fw,vH];rfl
     ·show xY υ W _ _ _ _ _ _ _ (sm k live jd (hV k live but (i+1))) (sA k live (hV k live but (i+1))) (AV (hV k live but (i+1)));rw[Lj,ats,ayb,gy,cc]
      have:AV (hV k live but i++[i])=AV (hV k live but i)++[(i:Int)]:=by simp[AV]
      rw[this];exact fX
    ·have e:=same π;refine⟨⟨rfl,rfl,rfl,rfl,rfl,rfl,rfl,rfl,by omega,by omega,J,σ,rfl,rfl,?_,?_,kr⟩,by((try dsimp only);omega)⟩
     ·show fZ=(hV k live but (i+1)).length;rw[e];exact vH
     ·show xY υ w' _ _ _ _ _ _ _ (sm k live jd (hV k live but (i+1))) (sA k live (hV k live but (i+1))) (AV (hV k live but (i+1)));rw[e];exact fe
   refine bt (λhp=>?_) (λhp=>?_)
   ·have hp:=b6 hp;refine⟨k,σ.at (j:=1) rfl,?_⟩;exact go _ (by rw[aa9,bI (by omega:0<L),Rw])
   ·have hp:=dn hp;exact go _ (by rw[aa9,iX (by omega:¬0<L)];rfl)
 ·have I:=dn I;obtain rfl:i=n:=by omega
  unfold jD.b4;rw[Wc];generalize π:hV k live but i=aW at fe vH LY;have c8:∀j∈aW,j<i/\xf k live but j=true:=λj ψ=>aba j (π▸ψ);dsimp only;refine bt (λaI=>?_) (λaI=>?_)
  ·have aI:fZ=0:=by simpa using aI
   have:aW=[]:=tu (by omega)
   subst this;rw[aN rfl];exact ω.mk ⟨rfl,J⟩
  ·have aI:fZ≠0:=by simpa using aI
   have b1:aW≠[]:=λe=>by rw[e]at vH;simp at vH;omega
   rw[aL b1];have fk:(sm k live jd aW).length=fZ:=by simp[sm,vH]
   have asd:(sA k live aW).length=fZ:=by simp[sA,vH]
   have af5:∀j∈aW,0<=live.getD j 0/\live.getD j 0<=k/\0<=jd.getD j 0/\jd.getD j 0<65536:=λj ψ=>by have h1:=L5 _ (PN (l:=live) (i:=j) (by have:=(c8 j ψ).1;omega));have ι:=LK _ (PN (l:=jd) (i:=j) (by have:=(c8 j ψ).1;omega));omega
   have h2:=Pd (sm k live jd aW) (sA k live aW) (dO fZ) (by omega);refine κ.use (ajU (n:=fZ) fe.σ.cells fe.af.cells fk asd (by omega) (λx J=>?_) (λx J=>?_)) ?_
   ·obtain⟨j,ψ,rfl⟩:=gx.1 J
    have:=af5 j ψ
    have m1:0<=(k-live.getD j 0)*(jd.getD j 0+1):=yZ (by omega) (by omega);have m2:(k-live.getD j 0)*(jd.getD j 0+1)<=16*65536:=qJ (by omega) (by omega) (by omega) (by omega);omega
   ·obtain⟨j,ψ,rfl⟩:=gx.1 J
    have:=af5 j ψ
    omega
   rintro _ an ⟨rfl,ay⟩
   try dsimp only[ca,cT,cU,bo,bL]
   rw[<-vH];generalize r8 (sm k live jd aW) (sA k live aW) fZ=mP at h2⊢;refine aT (by omega) (aT (by omega) ?_);obtain⟨a,e,r⟩:=(fe.bh.cells.ex ay).many (bA.vO (l:=AV aW) (i:=mP) (x:=((aW.getD mP 0:Nat):Int)) (by unfold AV;rw[List.getElem?_map,List.getD_eq_getElem?_getD,List.getElem?_eq_getElem (by omega)];rfl));exact hh e ⟨_,by rw[ch,eS];exact r,ω.mk ⟨rfl,J.trans ay⟩⟩
end Go.Proofs.YtcpdfhkhaekekaaGreat.G.cF
