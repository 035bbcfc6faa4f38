/- The walk of the functions, and the plain laws of the model: part of the proof. Conditions: none. -/
import Derived.Lib.Overlaps
import Derived.Test.YtcpdfhkhaekekaaGreatA6
set_option linter.unusedVariables false
set_option linter.unusedSimpArgs false
namespace Go.bO
open Go.RowKit
theorem μ.at{w:World}{B:Nat}{e:TypeId}{sz b:Nat}{n c:Nat}{xs:aU}(h:μ w B e sz (some ⟨b,0,none⟩) n c xs){j:Nat}{v:Value}(φ:xs[j]?=some v):w.cell? (⟨b,j,none⟩:Addr)=some v:=by
 have:=h.cells j v φ
 have ox:(⟨b,0,none⟩:Addr).add j=⟨b,j,none⟩:=by rw[Addr.add_lit];simp
 rwa[ox]at this
theorem μ.put{w:World}{B:Nat}{e:TypeId}{sz b:Nat}{xs cs:aU}(aB:μ w B e sz (some ⟨b,0,none⟩) 1 1 xs)(aj:cs.length=sz)(h1:∀y∈cs,y.oneCell'=true){N:ao}
  (K:∀τ,Kp w τ (λi=>i=b)->μ τ B e sz (some ⟨b,0,none⟩) 1 1 cs->N τ):hr w (⟨b,0,none⟩:Addr) cs/\∀τ,τ=w.setCells (⟨b,0,none⟩:Addr).block (⟨b,0,none⟩:Addr).off cs->N τ:=by
 obtain⟨a1,bP,cd⟩:=aB.writes 0 cs (by omega) h1;have I:=aB.1;have hl:(⟨b,0,none⟩:Addr).add 0=⟨b,0,none⟩:=Addr.add_zero' _;refine⟨?_,λτ hw=>?_⟩
 ·have:hr w ((⟨b,0,none⟩:Addr).add 0) cs:=a1
  rwa[hl]at this
 ·have oC:kQ w (some ⟨b,0,none⟩) 0 cs=τ:=by rw[hw];rfl
  rw[oC]at bP cd;refine K τ (cd.mono λi _⟨x,I,o⟩=>by cases I;exact o.symm) ?_;rw[E7,te,mS,aj,qY (by omega),pn]at bP;exact bP
theorem μ.da{w:World}{B:Nat}{e:TypeId}{sz b n c:Nat}{xs:aU}(aB:μ w B e sz (some ⟨b,0,none⟩) n c xs){j:Nat}(φ:j<n*sz){v:Value}(aJ:v.oneCell'=true){N:ao}
  (K:∀τ,Kp w τ (λi=>i=b)->μ τ B e sz (some ⟨b,0,none⟩) n c (xs.set j v)->N τ):(w.cell? (⟨b,j,none⟩:Addr)).isSome=true/\w.frozen? (⟨b,j,none⟩:Addr)=false/\∀τ,τ=w.setCell (⟨b,j,none⟩:Addr) v->N τ:=by
 obtain⟨h1,ι,aG⟩:=aB.writes j [v] (by simp;omega) (by simpa using aJ);have ox:(⟨b,0,none⟩:Addr).add j=⟨b,j,none⟩:=by rw[Addr.add_lit];simp
 have uq:hr w ((⟨b,0,none⟩:Addr).add j) [v]:=h1;rw[ox]at uq;have jT:=uq.2.1 0 (by simp);refine⟨jT.1,jT.2,λτ hw=>?_⟩;have oC:kQ w (some ⟨b,0,none⟩) j [v]=τ:=by rw[hw];show w.setCell ⟨b,0+j,none⟩ v=_;rw[mS]
 rw[oC]at ι aG;have jE:=aB.1;have gw:xs.take j++[v]++xs.drop (j+[v].length)=xs.set j v:=by rw[List.set_eq_take_append_cons_drop,aS (by omega)];simp
 rw[gw]at ι;exact K τ (aG.mono λi _⟨x,I,o⟩=>by cases I;exact o.symm) ι
theorem μ.new{w:World}(cs:aU)(e:TypeId):μ (w.alloc (.cells cs.toArray e)) w.heap.size e cs.length (some ⟨w.heap.size,0,none⟩) 1 1 cs:=μ.alloc cs e cs.length 1 (by omega)
theorem η.then{w γ τ:World}{S:bf}(h:η w γ)(k:Kp γ τ S)(ep:∀i,S i->w.heap.size<=i):η w τ:=
 Kp.trans h k (λ_ _ h=>h) λi o s=>absurd (ep i s) (by omega)
theorem a7.one{w:World}{p:J}{xs:aU}(h:a7 w p xs){v:Value}(aD:xs[0]?=some v):∃a,p=some a/\w.cell? a=some v:=by
 cases p with
 |none=>have:xs=[]:=h;subst this;simp at aD
 |some a=>
  refine⟨a,rfl,?_⟩
  have:=h 0 v aD
  rwa[show a.add 0=a from Addr.add_zero' a]at this
theorem a7.many{w:World}{p:J}{xs:aU}(h:a7 w p xs){j:Nat}{v:Value}(aD:xs[j]?=some v):∃a,p=some a/\w.cell? (a.add j)=some v:=by
 cases p with
 |none=>have:xs=[]:=h;subst this;simp at aD
 |some a=>exact⟨a,rfl,h j v aD⟩
def Typed(w:World)(e:TypeId)(i:Nat):Prop:=∃cur fr,w.heap[i]?=some (.cells cur e fr)
theorem Typed.ne{w:World}{e f:TypeId}{i j:Nat}(h:Typed w e i)(k:Typed w f j)(ca:e≠f):i≠j:=by
 rintro rfl;obtain⟨c,fr,h⟩:=h;obtain⟨aT,awH,k⟩:=k;rw[h]at k;injection k with k
 injection k with _ k _
 exact ca k
theorem μ.typed{w:World}{B:Nat}{e:TypeId}{sz:Nat}{p:J}{n c:Nat}{xs:aU}(h:μ w B e sz p n c xs){x:Addr}(I:p=some x):Typed w e x.block/\B<=x.block/\x.block<w.heap.size:=by
 refine⟨?_,h.ge I⟩;obtain⟨_,_,⟨hp,_⟩|⟨b,cur,fr,hp,_,ψ,_⟩⟩:=h
 ·rw[hp]at I;cases I
 ·rw[hp]at I;cases I;exact⟨cur,fr,ψ⟩
def kD(w:World)(B:Nat)(e:TypeId)(sz:Nat)(p:J)(n c:Nat)(xs:aU):Prop:=
 xs.length=n*sz/\n<=c/\((p=none/\c=0)\/∃b ε cur fr,p=some ⟨b,ε,none⟩/\B<=b/\w.heap[b]?=some (.cells cur e fr)/\wx fr cur.size/\ε+c*sz<=cur.size/\(cur.toList.drop ε).take (n*sz)=xs)
theorem μ.agD{w:World}{B:Nat}{e:TypeId}{sz:Nat}{p:J}{n c:Nat}{xs:aU}(h:μ w B e sz p n c xs):kD w B e sz p n c xs:=by
 obtain⟨aj,ax,h⟩:=h;refine⟨aj,ax,?_⟩;rcases h with h|⟨b,cur,fr,hp,dW,ψ,jr,π,I⟩
 ·exact .inl h
 ·exact .inr ⟨b,0,cur,fr,hp,dW,ψ,jr,by omega,by simpa using I⟩
theorem kD.cells{w:World}{B:Nat}{e:TypeId}{sz:Nat}{p:J}{n c:Nat}{xs:aU}(h:kD w B e sz p n c xs):a7 w p xs:=by
 obtain⟨aj,ax,h⟩:=h;rcases h with⟨rfl,rfl⟩|⟨b,ε,cur,fr,rfl,dW,ψ,jr,π,I⟩
 ·have:n=0:=by omega
  subst this
  have:xs=[]:=sb (by rw[aj];simp)
  subst this;rfl
 ·intro j v aJ;have ox:(⟨b,ε,none⟩:Addr).add j=⟨b,ε+j,none⟩:=by rw[Addr.add_lit]
  rw[ox,cell_of_block ψ];rw[<-I,List.getElem?_take]at aJ;split at aJ
  ·rw[List.getElem?_drop]at aJ;rw[<-Array.getElem?_toList];exact aJ
  ·simp at aJ
theorem kD.typed{w:World}{B:Nat}{e:TypeId}{sz:Nat}{p:J}{n c:Nat}{xs:aU}(h:kD w B e sz p n c xs){x:Addr}(I:p=some x):Typed w e x.block/\B<=x.block/\x.block<w.heap.size:=by
 obtain⟨_,_,⟨hp,_⟩|⟨b,ε,cur,fr,hp,dW,ψ,_⟩⟩:=h
 ·rw[hp]at I;cases I
 ·rw[hp]at I;cases I;refine⟨⟨cur,fr,ψ⟩,dW,?_⟩;rcases H6 b w.heap.size with h|h
  ·exact h
  ·rw[Array.getElem?_eq_none h]at ψ;cases ψ
theorem kD.aH{w w':World}{S:bf}{B:Nat}{e:TypeId}{sz:Nat}{p:J}{n c:Nat}{xs:aU}(h:kD w B e sz p n c xs)(hk:Kp w w' S)(ω:∀x,p=some x->¬S x.block):kD w' B e sz p n c xs:=by
 have yC:=@kD.typed _ _ _ _ _ _ _ _ h;obtain⟨aj,ax,h⟩:=h;refine⟨aj,ax,?_⟩;rcases h with h|⟨b,ε,cur,fr,rfl,dW,ψ,jr,π,I⟩
 ·exact .inl h
 ·refine .inr ⟨b,ε,cur,fr,rfl,dW,?_,jr,π,I⟩;rw[hk.block b (yC rfl).2.2 (ω _ rfl)];exact ψ
theorem kD.ex{w w':World}{B:Nat}{e:TypeId}{sz:Nat}{p:J}{n c:Nat}{xs:aU}(h:kD w B e sz p n c xs)(hk:η w w'):kD w' B e sz p n c xs:=h.aH hk λ_ _ h=>h
theorem kD.lower{w:World}{B B':Nat}{e:TypeId}{sz:Nat}{p:J}{n c:Nat}{xs:aU}(h:kD w B e sz p n c xs)(dW:B'<=B):kD w B' e sz p n c xs:=by
 obtain⟨aj,ax,h⟩:=h;refine⟨aj,ax,?_⟩;rcases h with h|⟨b,ε,cur,fr,hp,ψ,r⟩
 ·exact .inl h
 ·exact .inr ⟨b,ε,cur,fr,hp,fY dW ψ,r⟩
theorem kD.nil(w:World)(B:Nat)(e:TypeId)(sz:Nat):kD w B e sz none 0 0 []:=(μ.nil w B e sz).agD
theorem kD.tail{w:World}{B:Nat}{e:TypeId}{sz:Nat}{p:J}{n c:Nat}{xs:aU}(h:kD w B e sz p n c xs)(aD:1<=n)(ft:0<sz):kD w B e sz (du p c 1 sz) (n-1) (c-1) (xs.drop sz):=by
 obtain⟨aj,ax,h⟩:=h;have aO:(n-1)*sz=n*sz-sz:=by rw[Nat.sub_mul,Fb]
 have bE:(c-1)*sz=c*sz-sz:=by rw[Nat.sub_mul,Fb]
 have gw:1*sz<=n*sz:=tf _ aD;have iZ:n*sz<=c*sz:=tf _ ax;refine⟨by rw[ky,aj,aO],by omega,?_⟩;rcases h with⟨_,π⟩|⟨b,ε,cur,fr,rfl,dW,ψ,jr,π,I⟩
 ·omega
 ·unfold du;by_cases h1:c=1
  ·subst h1
   have:n=1:=by omega
   subst this;refine .inr ⟨b,ε,cur,fr,by simp,dW,ψ,jr,(by have:cur.toList.length=cur.size:=kP;rw[v7,Nat.zero_mul];omega),?_⟩;have af:xs.drop sz=[]:=qY (by rw[aj];omega);rw[af,v7,Nat.zero_mul,E7]
  ·rw[aM h1];refine .inr ⟨b,ε+sz,cur,fr,?_,dW,ψ,jr,by omega,?_⟩
   ·rw[Fb,iT,Addr.add_lit]
   ·rw[<-I,aO,<-OX,E6]
theorem ajv{w:World}{B:Nat}{e:TypeId}{sz:Nat}{p:J}{n c m bytes:Nat}{xs:aU}{zero:ag}{Src:aU->Prop}{N:J->Nat->ao}
  (aB:kD w B e sz p n c xs)(dW:B<=w.heap.size)(ys:aU)(ω:Src ys)(aj:ys.length=m*sz)(h1:∀y∈ys,y.oneCell'=true)(aL:zero.size=sz)
  (ψ:(n+m)*bytes<=140737488355328)(zO:n+m<=9223372036854775807)
  (K:∀bT aT w',kD w' B e sz bT (n+m) aT (xs++ys)->Kp w w' (λi=>∃x,p=some x/\x.block=i)->N bT aT w'):gK w p n c m Src e sz bytes zero N:=by
 have kL:=aB.cells;obtain⟨jE,pc,hp⟩:=aB;refine⟨ys,aj,ω,λmi=>?_,λaaL=>⟨ψ,zO,xs,jE,kL,λb aT w' wW DU fK=>?_⟩⟩
 ·rcases hp with⟨rfl,rfl⟩|⟨b,ε,cur,fr,rfl,DN,o8,jr,π,I⟩
  ·refine⟨trivial,λw' fK=>?_⟩;have hm:m=0:=by omega
   have ax:n=0:=by omega
   subst hm ax
   have:ys=[]:=sb (by rw[aj];simp)
   subst this;subst fK;refine K _ _ _ ⟨by simpa using jE,en _,.inl ⟨rfl,rfl⟩⟩ (Kp.refl _ _)
  ·have hmul:(n+m)*sz<=c*sz:=tf _ mi;have BG:(n+m)*sz=n*sz+m*sz:=k7 _ _ _;have ox:(⟨b,ε,none⟩:Addr).add (n*sz)=⟨b,ε+n*sz,none⟩:=by rw[Addr.add_lit]
   refine⟨?_,λw' fK=>?_⟩
   ·show hr w ((⟨b,ε,none⟩:Addr).add (n*sz)) ys;rw[ox];refine⟨rfl,λj φ=>⟨?_,?_⟩,h1⟩<;>dsimp only
    ·rw[cell_of_block o8,Array.getElem?_eq_getElem (by omega)];rfl
    ·rw[Jx o8];rcases jr with h|h<;>simp<;>omega
   ·have hw:w'=w.setCells b (ε+n*sz) ys:=by rw[fK];simp[kQ]
    subst hw;have eu:=JR b ys (ε+n*sz) w cur o8;refine K _ _ _ ⟨by simp[jE,aj,BG],mi,.inr ⟨b,ε,_,fr,rfl,DN,eu,by rw[size_put];exact jr,by rw[size_put];exact π,?_⟩⟩ (Kp.setCells b ⟨_,rfl,rfl⟩ ys (ε+n*sz) w);have fV:cur.toList.length=cur.size:=kP;rw[Ge _ _ _ (by omega),BG];have t1:(cur.toList.take (ε+n*sz)++ys++cur.toList.drop (ε+n*sz+ys.length)).drop ε=xs++ys++cur.toList.drop (ε+n*sz+ys.length):=by rw[lT,Cd (by rw[gQ];omega),E6,show ε+n*sz-ε=n*sz by omega,I,lT]
    rw[t1,oT (by simp[jE,aj])];rw[hc (by simp[jE,aj])]
 ·subst fK wW;have z7:(Builtin.zeroCells zero (aT-(n+m))).size=(aT-(n+m))*sz:=by rw[size_zeroCells,aL]
  have ft:(xs.toArray++ys.toArray++Builtin.zeroCells zero (aT-(n+m))).size=aT*sz:=by
   have:aT*sz=(n+m)*sz+(aT-(n+m))*sz:=by rw[<-k7];congr 1;omega
   simp only[K6,fh,z7,jE,aj,this,k7]
  have w5:=μ.made (w:=w.drew) (e:=e) (sz:=sz) (n:=n+m) (c:=aT) (cur:=xs.toArray++ys.toArray++Builtin.zeroCells zero (aT-(n+m))) (fr:=(0,0)) DU (by rw[ft];exact ew _) (wx.zero _);have w7:(xs.toArray++ys.toArray++Builtin.zeroCells zero (aT-(n+m))).toList.take ((n+m)*sz)=xs++ys:=by
   have hl:(xs.toArray++ys.toArray++Builtin.zeroCells zero (aT-(n+m))).toList=(xs++ys)++(Builtin.zeroCells zero (aT-(n+m))).toList:=by simp
   rw[hl,oT (by simp[jE,aj,k7]),hc (by simp[jE,aj,k7])]
  rw[w7]at w5;exact K _ _ _ (w5.lower dW).agD ((η.trans (η.drew w) (η.alloc _ _)).mono λ_ _ h=>h.elim)
theorem μ.cB{w w':World}{S:bf}{B:Nat}{e:TypeId}{sz:Nat}{p:J}{n c:Nat}{xs:aU}(h:μ w B e sz p n c xs)(k:Kp w w' S)(f:TypeId)(ω:∀i,S i->Typed w f i)(ca:e≠f):μ w' B e sz p n c xs:=
 h.aH k λx I hm=>(h.typed I).1.ne (ω _ hm) ca rfl
theorem kD.cB{w w':World}{S:bf}{B:Nat}{e:TypeId}{sz:Nat}{p:J}{n c:Nat}{xs:aU}(h:kD w B e sz p n c xs)(k:Kp w w' S)(f:TypeId)(ω:∀i,S i->Typed w f i)(ca:e≠f):kD w' B e sz p n c xs:=
 h.aH k λx I hm=>(h.typed I).1.ne (ω _ hm) ca rfl
theorem Kp.fZ{w γ τ:World}{S:bf}(h:Kp w γ S)(k:Kp γ τ S):Kp w τ S:=Kp.trans h k (λ_ _ h=>h) λ_ _ h=>h
theorem η.aH{w γ:World}(h:η w γ)(S:bf):Kp w γ S:=h.mono λ_ _ h=>h.elim
theorem dv(b n:Nat):(⟨b,0,none⟩:Addr).add n=⟨b,n,none⟩:=by rw[Addr.add_lit];simp
theorem a7.row{w:World}{p:J}{rows:List aU}(h:a7 w p rows.flatten){k:Nat}(hk:∀r∈rows,r.length=k)(aD:0<k){i:Nat}{r:aU}(o:rows[i]?=some r):∃a,p=some a/\aw w (a.add (i*k)) r:=by
 have aj:=hk r (eZ o);have h1:=Ni rows k hk i r o 0 aD;have hl:r[0]?=some r[0]:=List.getElem?_eq_getElem (by omega);rw[hl]at h1;obtain⟨a,rfl,_⟩:=h.many h1;refine⟨a,rfl,λj v φ=>?_⟩;have sV:=(List.getElem?_eq_some_iff.1 φ).1
 have:=Ni rows k hk i r o j (by omega)
 rw[φ]at this;rw[add_add];exact h _ _ this
theorem ZO:∀(cs:aU)(k ε:Nat)(a:ag),(cs.zipIdx k).foldl (λa(x:Value×Nat)=>a.setIfInBounds (ε+x.2) x.1) a=put a (ε+k) cs
 |[],_,_,_=>rfl
 |c::r,k,ε,a=>by rw[List.zipIdx_cons,List.foldl_cons,ZO r (k+1) ε];rfl
theorem Sg{place:Nat->Option (Nat×Nat)}{cells:ag}{i off size:Nat}{v:Value}{rest:List (Nat×Value)}(hp:place i=some (off,size))(aJ:v.cells.size=size)(ω:off+size<=cells.size):
  Instr.fill place cells ((i,v)::rest)=Instr.fill place (put cells off v.cells.toList) rest:=by
 rw[Instr.fill,hp];dsimp only;rw[aM (by simp[aJ];omega)];congr 1;rw[<-Array.foldl_toList,Array.toList_zipIdx];exact ZO v.cells.toList 0 off cells
theorem arz(z:ag)(cs:aU)(h:cs.length=z.size):put z 0 cs=cs.toArray:=by apply qc;have aj:z.toList.length=z.size:=kP;rw[Ge _ _ _ (by omega),E7,te,mS,qY (by omega),pn]
theorem Sh(k:Nat)(z cs:ag)(aL:z.size=k)(π:cs.size=k):Instr.fill (λi=>some (i*k,k)) z [(0,.agg cs)]=some cs:=by rw[Sg (off:=0) (size:=k) (v:=.agg cs) (by simp) π (by omega)];show some (put z 0 cs.toList)=some cs;rw[arz z cs.toList (by simp;omega)]
theorem alA(k:Nat)(z cs:ag)(v:Value)(aL:z.size=1+k)(aJ:v.cells=#[v])(π:cs.size=k):Instr.fill (λi=>#[(0,1),(1,k)][i]?) z [(0,v),(1,.agg cs)]=some (v::cs.toList).toArray:=by rw[Sg (off:=0) (size:=1) (by simp) (by rw[aJ];rfl) (by omega),Sg (off:=1) (size:=k) (v:=.agg cs) (by simp) π (by rw[size_put];omega)];show some _=some _;congr 1;have aj:z.toList.length=z.size:=kP;apply qc;rw[aJ];show(put (put z 0 [v]) 1 cs.toList).toList=v::cs.toList;have fV:cs.toList.length=cs.size:=kP;rw[Ge _ _ _ (by rw[size_put];omega),Ge _ _ _ (by simp;omega)];simp only[E7,te,mS,k5,Fa];rw[oT (by simp),qY (by simp;omega)];simp
theorem Ew(k m:Nat)(v:Value)(hk:0<k):madeCells (List.replicate k v).toArray m=(List.replicate m v).toArray:=by
 apply Array.ext
 ·simp[madeCells]
 ·intro i h1 ι
  have:i%k<k:=Nat.mod_lt _ hk
  simp[madeCells,this]
theorem ZH{α:Type}{k:Nat}:∀(rows:List (List α))(i:Nat)(r:List α),(∀r∈rows,r.length=k)->i<rows.length->r.length=k->rows.flatten.take (i*k)++r++rows.flatten.drop (i*k+r.length)=(rows.set i r).flatten
 |[],i,r,_,h,_=>by simp at h
 |x::rs,0,r,hk,_,υ=>by have I:=hk x (by simp);simp only[Nat.zero_mul,E7,te,mS,B8,H7];rw[Cd (by omega),qY (by omega),te]
 |x::rs,i+1,r,hk,h,υ=>by have I:=hk x (by simp);have ch:=ZH rs i r (λr υ=>hk r (hW _ υ)) (by simpa using h) υ;rw[B8,List.set_cons_succ,B8,<-ch,k7,Fb];rw[show i*k+k=x.length+i*k by omega,List.take_length_add_append,show x.length+i*k+r.length=x.length+(i*k+r.length)by omega,List.drop_length_add_append];simp[lT]
theorem akh{w:World}{B:Nat}{e:TypeId}{sz:Nat}{p s:J}{n c nu:Nat}{xs ys:aU}{N:ao}(aB:μ w B e sz p n c xs)(ω:a7 w s ys)(aj:ys.length=nu*sz)(p0:nu<=n)(h1:∀y∈ys,y.oneCell'=true)
  (K:∀w',μ w' B e sz p n c (ys++xs.drop (nu*sz))->Kp w w' (λi=>∃x,p=some x/\x.block=i)->N w'):vq w p n s nu sz N:=by
 have hm:nu*sz<=n*sz:=tf _ p0;obtain⟨a1,bP,cd⟩:=aB.writes 0 ys (by omega) h1;refine⟨ys,by rw[aj];congr 1;exact(qZ p0).symm,ω,a1,λw' fK=>?_⟩;subst fK;rw[mS,aj]at bP;exact K _ (by simpa using bP) cd
theorem Bb{w:World}{B:Nat}{e:TypeId}{sz:Nat}{p:J}{n c m bytes:Nat}{xs:aU}{zero:ag}{Src:aU->Prop}{N:J->Nat->ao}
  (aB:μ w B e sz p n c xs)(dW:B<=w.heap.size)(ys:aU)(ω:Src ys)(aj:ys.length=m*sz)(h1:∀y∈ys,y.oneCell'=true)(aL:zero.size=sz)
  (ψ:(n+m)*bytes<=140737488355328)(zO:n+m<=9223372036854775807)
  (K:∀bT aT w',μ w' B e sz bT (n+m) aT (xs++ys)->Kp w w' (λi=>∃x,p=some x/\x.block=i)->(bT=p\/∀x,bT=some x->w.heap.size<=x.block)->N bT aT w'):gK w p n c m Src e sz bytes zero N:=by
 have kL:=aB.cells;obtain⟨jE,pc,hp⟩:=aB;refine⟨ys,aj,ω,λmi=>?_,λaaL=>⟨ψ,zO,xs,jE,kL,λb aT w' wW DU fK=>?_⟩⟩
 ·rcases hp with⟨rfl,rfl⟩|⟨b,cur,fr,rfl,DN,o8,jr,π,I⟩
  ·refine⟨trivial,λw' fK=>?_⟩;have hm:m=0:=by omega
   have ax:n=0:=by omega
   subst hm ax
   have:ys=[]:=sb (by rw[aj];simp)
   subst this;subst fK;refine K _ _ _ ⟨by simpa using jE,en _,.inl ⟨rfl,rfl⟩⟩ (Kp.refl _ _) (.inl rfl)
  ·have hmul:(n+m)*sz<=c*sz:=tf _ mi;have BG:(n+m)*sz=n*sz+m*sz:=k7 _ _ _;have ox:(⟨b,0,none⟩:Addr).add (n*sz)=⟨b,n*sz,none⟩:=by rw[Addr.add_lit];simp
   refine⟨?_,λw' fK=>?_⟩
   ·show hr w ((⟨b,0,none⟩:Addr).add (n*sz)) ys;rw[ox];refine⟨rfl,λj φ=>⟨?_,?_⟩,h1⟩<;>dsimp only
    ·rw[cell_of_block o8,Array.getElem?_eq_getElem (by omega)];rfl
    ·rw[Jx o8];rcases jr with h|h<;>simp<;>omega
   ·have hw:w'=w.setCells b (n*sz) ys:=by rw[fK];simp[kQ]
    subst hw;have eu:=JR b ys (n*sz) w cur o8;refine K _ _ _ ⟨by simp[jE,aj,BG],mi,.inr ⟨b,_,fr,rfl,DN,eu,by rw[size_put];exact jr,by rw[size_put];exact π,?_⟩⟩ (Kp.setCells b ⟨_,rfl,rfl⟩ ys (n*sz) w) (.inl rfl);rw[Ge _ _ _ (by omega),BG,I,oT (by simp[jE,aj])];rw[hc (by simp[jE,aj])]
 ·subst fK wW;have z7:(Builtin.zeroCells zero (aT-(n+m))).size=(aT-(n+m))*sz:=by rw[size_zeroCells,aL]
  have ft:(xs.toArray++ys.toArray++Builtin.zeroCells zero (aT-(n+m))).size=aT*sz:=by
   have:aT*sz=(n+m)*sz+(aT-(n+m))*sz:=by rw[<-k7];congr 1;omega
   simp only[K6,fh,z7,jE,aj,this,k7]
  have w5:=μ.made (w:=w.drew) (e:=e) (sz:=sz) (n:=n+m) (c:=aT) (cur:=xs.toArray++ys.toArray++Builtin.zeroCells zero (aT-(n+m))) (fr:=(0,0)) DU (by rw[ft];exact ew _) (wx.zero _);have w7:(xs.toArray++ys.toArray++Builtin.zeroCells zero (aT-(n+m))).toList.take ((n+m)*sz)=xs++ys:=by
   have hl:(xs.toArray++ys.toArray++Builtin.zeroCells zero (aT-(n+m))).toList=(xs++ys)++(Builtin.zeroCells zero (aT-(n+m))).toList:=by simp
   rw[hl,oT (by simp[jE,aj,k7]),hc (by simp[jE,aj,k7])]
  rw[w7]at w5;exact K _ _ _ (w5.lower dW) ((η.trans (η.drew w) (η.alloc _ _)).mono λ_ _ h=>h.elim) (.inr λx I=>by cases I;exact ew _)
theorem μ.more{w:World}{B:Nat}{e:TypeId}{sz b n c:Nat}{xs:aU}(h:μ w B e sz (some ⟨b,0,none⟩) n c xs){k:Nat}(hk:n<=k)(aaR:k<=c):∃ys,ys.length=(k-n)*sz/\μ w B e sz (some ⟨b,0,none⟩) k c (xs++ys):=by
 obtain⟨aj,ax,hp⟩:=h;rcases hp with⟨hp,_⟩|⟨gL,cur,fr,hp,dW,ψ,jr,π,I⟩
 ·cases hp
 ·cases hp;have hm:k*sz<=c*sz:=tf _ aaR;have anI:n*sz<=k*sz:=tf _ hk;have e:xs++(cur.toList.take (k*sz)).drop (n*sz)=cur.toList.take (k*sz):=by
   conv=>rhs;rw[<-yT (n*sz) (cur.toList.take (k*sz))]
   rw[AF,qZ anI,I]
  refine⟨(cur.toList.take (k*sz)).drop (n*sz),by simp[Nat.sub_mul];omega,?_⟩;rw[e];exact⟨by simp;omega,aaR,.inr ⟨_,cur,fr,rfl,dW,ψ,jr,π,rfl⟩⟩
theorem μ.less{w:World}{B:Nat}{e:TypeId}{sz n c:Nat}{p:J}{xs:aU}(h:μ w B e sz p n c xs){k:Nat}(hk:k<=n):μ w B e sz p k c (xs.take (k*sz)):=by
 obtain⟨aj,ax,hp⟩:=h;have hm:k*sz<=n*sz:=tf _ hk;refine⟨by simp;omega,by omega,?_⟩;rcases hp with hp|⟨gL,cur,fr,hp,dW,ψ,jr,π,I⟩
 ·exact .inl hp
 ·exact .inr ⟨gL,cur,fr,hp,dW,ψ,jr,π,by rw[<-I,AF,qZ hm]⟩
theorem μ.asJ{w:World}{B:Nat}{e:TypeId}{sz n c:Nat}{p:J}{xs:aU}(h:μ w B e sz p n c xs)(s:Nat):du p c 0 s=p:=by
 unfold du;split
 ·rfl
 ·rcases h.2.2 with⟨rfl,_⟩|⟨b,cur,fr,rfl,_⟩
  ·rfl
  ·simp only[iT,Addr.add_lit];simp
theorem MR{w:World}{B:Nat}{e:TypeId}{p s:J}{n c nu cU:Nat}{xs ys:aU}{N:ao}(aB:μ w B e 1 p n c xs)(ε:Nat)(ω:a7 w s ys)(aj:ys.length=min nu cU)(υ:ε+ys.length<=n)(h1:∀y∈ys,y.oneCell'=true)
  (K:∀w',μ w' B e 1 p n c (xs.take ε++ys++xs.drop (ε+ys.length))->Kp w w' (λi=>∃x,p=some x/\x.block=i)->N w'):vq w (du p c ε 1) cU s nu 1 N:=by
 obtain⟨a1,bP,cd⟩:=aB.writes ε ys (by omega) h1;have key:Mu w (du p c ε 1) 0 ys/\kQ w (du p c ε 1) 0 ys=kQ w p ε ys:=by
  have ax:=aB.2.1;unfold du;split
  ·rename_i aw5
   have:ys=[]:=sb (by omega)
   subst this;rcases aB.2.2 with⟨rfl,_⟩|⟨b,cur,fr,rfl,_⟩
   ·exact⟨trivial,rfl⟩
   ·refine⟨?_,rfl⟩;show hr w ((⟨b,0,none⟩:Addr).add 0) [];exact⟨by simp[Addr.add_lit],λj φ=>by simp at φ,λv aJ=>by cases aJ⟩
  ·rcases aB.2.2 with⟨rfl,_⟩|⟨b,cur,fr,rfl,_⟩
   ·exact⟨trivial,rfl⟩
   ·have a1:hr w ((⟨b,0,none⟩:Addr).add ε) ys:=a1;constructor
    ·show hr w (((⟨b,0,none⟩:Addr).add (ε*1)).add 0) ys;rw[add_add,ey,Nat.add_zero];exact a1
    ·show w.setCells ((⟨b,0,none⟩:Addr).add (ε*1)).block (((⟨b,0,none⟩:Addr).add (ε*1)).off+0) ys=w.setCells b (0+ε) ys;rw[x1,I9,ey,Nat.add_zero]
 refine⟨ys,by rw[aj,ey],ω,key.1,λw' fK=>?_⟩;subst fK;rw[key.2];exact K _ bP cd
theorem ajx{w:World}{B:Nat}{e:TypeId}{p:J}{i c m bytes:Nat}{v:Value}{xs:aU}{N:J->Nat->ao}(aB:μ w B e 1 p i c xs)(bJ:c<i+m)(ψ:(i+m)*bytes<=140737488355328)(zO:i+m<=9223372036854775807)
  (K:∀aT w' kS,kS.length=m->η w w'->μ w' w.heap.size e 1 (some ⟨w.heap.size,0,none⟩) (i+m) aT (xs++kS)->N (some ⟨w.heap.size,0,none⟩) aT w'):MD w p i c m e 1 bytes #[v] N:=by
 have Kn:(Builtin.zeroCells #[v] m).size=m:=by simp[size_zeroCells]
 have anM:m*bytes<=(i+m)*bytes:=tf _ (by omega)
 refine⟨by have:((m*bytes:Nat):Int)<=281474976710656:=by omega
           rwa[Int.natCast_mul]at this,by omega,(Builtin.zeroCells #[v] m).toList,by simp[Kn],by simp,λh=>by omega,λ_=>⟨ψ,zO,xs,aB.1,aB.cells,λb aT w' wW DU fK=>?_⟩⟩
 subst wW fK;have jE:xs.length=i:=by have:=aB.1;omega
 have z7:(Builtin.zeroCells #[v] (aT-(i+m))).size=aT-(i+m):=by rw[size_zeroCells];simp
 have ft:(xs.toArray++(Builtin.zeroCells #[v] m).toList.toArray++Builtin.zeroCells #[v] (aT-(i+m))).size=aT:=by simp only[K6,fh,kP,z7,Kn,jE];omega
 have w5:=μ.made (w:=w.drew) (e:=e) (sz:=1) (n:=i+m) (c:=aT) (cur:=xs.toArray++(Builtin.zeroCells #[v] m).toList.toArray++Builtin.zeroCells #[v] (aT-(i+m))) (fr:=(0,0)) DU (by rw[ft];omega) (wx.zero _);have w7:(xs.toArray++(Builtin.zeroCells #[v] m).toList.toArray++Builtin.zeroCells #[v] (aT-(i+m))).toList.take ((i+m)*1)=xs++(Builtin.zeroCells #[v] m).toList:=by
  have hl:(xs.toArray++(Builtin.zeroCells #[v] m).toList.toArray++Builtin.zeroCells #[v] (aT-(i+m))).toList=(xs++(Builtin.zeroCells #[v] m).toList)++(Builtin.zeroCells #[v] (aT-(i+m))).toList:=by simp
  rw[hl,oT (by simp[jE,Kn]),hc (by simp[jE,Kn])]
 rw[w7]at w5;exact K aT _ _ (by simp[Kn]) ((η.drew w).trans (η.alloc _ _)) w5
theorem alo{P:Program}{g:FuncId}{fn:Func}{t r e:TypeId}(bg:P.funcs[g]?=some fn)(J5:(fn.name== "runtime.NumGoroutine")=false)(ψ:fn.body.isNone=true)(ax:Extern.findNext fn=none)
  (he:Extern.find fn=some (Extern.SlicesOverlaps.overlaps #[t,t] #[r]))(aP:P.underlying t=some (.slice e)){size:Nat}(aL:∀w,(Go.sizeOf e).run P w=.ok size w)
  {w:World}{zd:Nat}{v:Value}{aeP tb:TypeId}{cur:ag}{fr:Nat×Nat}{b ε:Nat}(aJ:w.heap[zd]?=some (.cells #[v] aeP))(hw:w.heap[b]?=some (.cells cur tb fr))(S4:cur.size≠0)(ca:zd≠b){Uq gA lb iR:Nat}
  {N:Value->ao}(h:N (.bool false) w):Sd P g #[.slice (some ⟨zd,0,none⟩) Uq gA,.slice (some ⟨b,ε,none⟩) lb iR] w N:=by
 refine⟨.bool false,w,?_,h⟩;rw[run_callFunc_extern bg J5 ψ ax he];rw[Lib.run_overlaps_apart w t r e aP size aL ⟨zd,0,none⟩ ⟨b,ε,none⟩ Uq gA lb iR ca aeP tb 1 cur.size (by simp[World.shape?,aJ]) (by simp[World.shape?,hw]) S4 (by simp[World.frozen?,aJ]) (by simp[World.frozen?,aJ])];rfl
end Go.bO
namespace Go.Proofs.YtcpdfhkhaekekaaGreat.G
open Go.bO Go.RowKit
abbrev kU:=BitVec 32
def adp:kU:=79764919#32
def aey(r:kU):kU:=(r<<<1)^^^(if r.msb then adp else 0#32)
def Lv:Nat->kU->kU
 |0,r=>r
 |k+1,r=>aey (Lv k r)
def Ri(x:Int):kU:=BitVec.ofInt 32 x<<<24
def Le(r:kU)(xs:an):kU:=xs.foldl (λr x=>Lv 8 (r^^^Ri x)) r
def more(s:kU)(xs:an):kU:= ~~~(Le (~~~s) xs)
def u(r:kU):Int:=(r.toNat:Int)
theorem P6(r:kU):0<=u r/\u r<4294967296:=by
 have:=r.isLt
 unfold u;omega
theorem UY(r:kU):BitVec.ofInt 32 (u r)=r:=by simp[u]
theorem avy{x:Int}(aD:0<=x)(h1:x<4294967296):u (BitVec.ofInt 32 x)=x:=by unfold u;rw[BitVec.toNat_ofInt];omega
theorem ajI:IntKind.u32.bits=32:=rfl
theorem wrap32(n:Int):IntKind.u32.wrap n=n%4294967296:=by simp[IntKind.wrap,IntKind.signed,IntKind.bits]
theorem ahl(r:kU):IntKind.u32.wrap (u r)=u r:=by
 rw[wrap32]
 have:=P6 r
 omega
theorem ahr(r s:kU):IntKind.u32.wrap ((BitVec.ofInt IntKind.u32.bits (u r)^^^BitVec.ofInt IntKind.u32.bits (u s)).toNat:Int)=u (r^^^s):=by show IntKind.u32.wrap ((BitVec.ofInt 32 (u r)^^^BitVec.ofInt 32 (u s)).toNat:Int)=_;rw[UY,UY];exact ahl _
theorem aco(r:kU):IntKind.u32.wrap ((BitVec.ofInt IntKind.u32.bits (if IntKind.u32.signed then-1 else IntKind.u32.max)^^^BitVec.ofInt IntKind.u32.bits (u r)).toNat:Int)=u (~~~r):=by
 have e:BitVec.ofInt 32 (if IntKind.u32.signed then-1 else IntKind.u32.max)=BitVec.allOnes 32:=by decide
 show IntKind.u32.wrap ((BitVec.ofInt 32 (if IntKind.u32.signed then-1 else IntKind.u32.max)^^^BitVec.ofInt 32 (u r)).toNat:Int)=_;rw[e,UY,BitVec.allOnes_xor];exact ahl _
theorem aec(r:kU)(k:Nat)(hk:k<=32):IntKind.u32.wrap (u r*2^(min k IntKind.u32.bits))=u (r<<<k):=by rw[ajI,qZ hk,wrap32];unfold u;rw[BitVec.toNat_shiftLeft,Nat.shiftLeft_eq];simp
theorem avf(r:kU):Int.fdiv (u r) (2^(min 31 IntKind.u32.bits))=if r.msb then 1 else 0:=by
 show Int.fdiv (u r) 2147483648=_;rw[HX _ (by omega)];have h:=r.msb_eq_decide;have h1:=P6 r;rw[h];unfold u at*;by_cases I:2147483648<=r.toNat
 ·rw[aS (by simpa using I)];omega
 ·rw[aM (by simpa using I)];omega
theorem aro(r:kU):IntKind.u32.wrap (79764919*Int.fdiv (u r) (2^(min 31 IntKind.u32.bits)))=u (if r.msb then adp else 0#32):=by rw[avf];cases r.msb<;>decide
theorem as8(r:kU):IntKind.u32.wrap ((BitVec.ofInt IntKind.u32.bits (IntKind.u32.wrap (u r*2^(min 1 IntKind.u32.bits)))^^^BitVec.ofInt IntKind.u32.bits (IntKind.u32.wrap (79764919*Int.fdiv (u r) (2^(min 31 IntKind.u32.bits))))).toNat:Int)=u (aey r):=by rw[aec r 1 (by omega),aro,ahr];rfl
theorem Iq(r:kU)(w:World):tk.C (u r) w (χ λv w'=>v=.int .u32 (u (Lv 8 r))/\η w w'):=by
 apply tk.ok;unfold tk.main tk.bd;refine⟨λx i γ=>∃j:Nat,i=j/\j<=8/\x=u (Lv j r)/\w=γ,λ_ i _=>(8-i).toNat,⟨0,rfl,by omega,rfl,rfl⟩,?_⟩;rintro _ _ γ ⟨j,rfl,φ,rfl,rfl⟩;unfold tk.δ;by_cases bM:(j:Int)<8
 ·rw[ud bM,as8,bY (by omega) (by omega)];exact⟨⟨j+1,by omega,by omega,rfl,rfl⟩,by((try dsimp only);omega)⟩
 ·rw[iD bM];obtain rfl:j=8:=by omega
  exact χ.mk ⟨rfl,η.refl w⟩
theorem ajM{x:Int}(aD:0<=x)(h1:x<256):IntKind.u32.wrap (IntKind.u32.wrap x*2^(min 24 IntKind.u32.bits))=u (Ri x):=by
 have e:IntKind.u32.wrap x=u (BitVec.ofInt 32 x):=by rw[wrap32,avy aD (by omega)];omega
 rw[e,aec _ 24 (by omega)];rfl
theorem ar2(r:kU)(xs:an)(x:Int):Le r (xs++[x])=Lv 8 (Le r xs^^^Ri x):=by simp[Le]
theorem atr{α:Type}{l:List α}{j:Nat}(φ:j<l.length):l.take (j+1)=l.take j++[l[j]]:=k6 φ
theorem Hz{w:World}{k:IntKind}{p:J}{xs:an}(π:a7 w p (xs.map (Value.int k))){j:Nat}(φ:j<xs.length):∃a,p=some a/\w.cell? (a.add j)=some (.int k xs[j]):=by
 cases p with
 |none=>have:xs.map (Value.int k)=[]:=π;simp at this;subst this;simp at φ
 |some a=>exact⟨a,rfl,π j _ (by simp[φ])⟩
def bj(xs:an):aU:=xs.map (.int .u8)
theorem ail(s:kU)(p:J)(n c:Nat)(xs:an)(w:World)(π:a7 w p (bj xs))(ax:xs.length=n)(aj:n<=9223372036854775806)(ψ:∀x∈xs,0<=x/\x<256):
  tj.C (u s) p n c w (χ λv w'=>v=.int .u32 (u (more s xs))/\η w w'):=by
 apply tj.ok;unfold tj.main tj.bd;rw[aco];refine⟨λx ab ay c1 t i γ=>p=ab/\n=ay/\c=c1/\(n:Int)=t/\∃j:Nat,i=j/\j<=n/\x=u (Le (~~~s) (xs.take j))/\η w γ,λ_ _ _ _ _ i _=>(n-i).toNat,⟨rfl,rfl,rfl,rfl,0,rfl,by omega,rfl,η.refl w⟩,?_⟩;rintro _ _ _ _ _ _ γ ⟨rfl,rfl,rfl,rfl,j,rfl,φ,rfl,h1⟩;unfold tj.δ;by_cases bM:(j:Int)<n
 ·rw[ud bM];have sV:j<xs.length:=by omega
  obtain⟨ar,zX,jT⟩:=Hz (π.ex h1) sV;refine aW (by omega) (aW bM (gG zX ?_));refine⟨xs[j],by simpa using jT,?_⟩;obtain⟨qG,δ⟩:=ψ xs[j] (hF _);rw[ajM qG δ,ahr];refine κ.use (Iq _ γ) ?_;rintro _ τ ⟨rfl,ι⟩
  try dsimp only[M1]
  rw[bY (by omega) (by omega)];refine⟨⟨rfl,rfl,rfl,rfl,j+1,by omega,by omega,?_,h1.trans ι⟩,by((try dsimp only);omega)⟩;rw[atr sV,ar2]
 ·rw[iD bM,aco]
  have:j=xs.length:=by omega
  subst this;rw[AB];exact χ.mk ⟨rfl,h1⟩
theorem XF(p:J)(n c:Nat)(xs:an)(w:World)(π:a7 w p (bj xs))(ax:xs.length=n)(aj:n<=9223372036854775806)(ψ:∀x∈xs,0<=x/\x<256):
  Fv.C p n c w (χ λv w'=>v=.int .u32 (u (more 0#32 xs))/\η w w'):=by
 apply Fv.ok;unfold Fv.main;refine κ.use (ail 0#32 p n c xs w π ax aj ψ) ?_;rintro _ γ ⟨rfl,h1⟩
 try dsimp only[M1]
 exact χ.mk ⟨rfl,h1⟩
def Bytes(xs:an):Prop:=∀x∈xs,0<=x/\x<256
theorem Bytes.append{xs ys:an}(h:Bytes xs)(k:Bytes ys):Bytes (xs++ys):=λx I=>(iG.1 I).elim (h x) (k x)
theorem Bytes.lF(n:Nat):Bytes (List.replicate n 0):=λx I=>by rw[(List.mem_replicate.1 I).2];omega
theorem Bytes.take{xs:an}(h:Bytes xs)(n:Nat):Bytes (xs.take n):=λx I=>h x (vW I)
theorem Bytes.drop{xs:an}(h:Bytes xs)(n:Nat):Bytes (xs.drop n):=λx I=>h x (HY I)
def pad(xs:an):an:=xs++List.replicate (60-xs.length) 0
def Lw(r:kU):an:=[u r/16777216%256,u r/65536%256,u r/256%256,u r%256]
def kz(xs:an):an:=pad xs++Lw (more 0#32 (pad xs))
def Jj(xs:an):Int:=if 60<xs.length then 6 else 0
def uc(xs:an):an:=if 60<xs.length then[]else kz xs
def nq(xs:an):Int:=if xs.length=64 then(if uc (xs.take 60)=xs then 0 else 2)else 6
def xq(xs:an):an:=if xs.length=64 then(if uc (xs.take 60)=xs then xs.take 60 else[])else[]
theorem KP{xs:an}(h:xs.length<=60):(pad xs).length=60:=by simp[pad];omega
theorem atd(r:kU):Bytes (Lw r):=by intro x I;simp only[Lw,fA,n1,oS]at I;rcases I with rfl|rfl|rfl|rfl<;>exact⟨O6 _ (by omega),OW _ (by omega)⟩
theorem adb{xs:an}(h:Bytes xs):Bytes (pad xs):=h.append (Bytes.lF _)
theorem Ik{xs:an}(h:Bytes xs):Bytes (kz xs):=(adb h).append (atd _)
theorem aj5{xs:an}(h:Bytes xs):Bytes (uc xs):=by
 unfold uc;split
 ·intro x I;cases I
 ·exact Ik h
theorem ate(r:kU):[Value.int .u8 (IntKind.u8.wrap (Int.fdiv (u r) (2^(min 24 IntKind.u32.bits)))),Value.int .u8 (IntKind.u8.wrap (Int.fdiv (u r) (2^(min 16 IntKind.u32.bits)))),Value.int .u8 (IntKind.u8.wrap (Int.fdiv (u r) (2^(min 8 IntKind.u32.bits)))),Value.int .u8 (IntKind.u8.wrap (u r))]=bj (Lw r):=by
 have aO:(2:Int)^(min 24 IntKind.u32.bits)=16777216:=by decide
 have bE:(2:Int)^(min 16 IntKind.u32.bits)=65536:=by decide
 have gw:(2:Int)^(min 8 IntKind.u32.bits)=256:=by decide
 rw[aO,bE,gw,wi,wi,wi,wi,HX _ (by omega),HX _ (by omega),HX _ (by omega)];rfl
theorem Ct(xs:an):∀y∈bj xs,y.oneCell'=true:=IF _ _
theorem IE(xs ys:an):bj xs++bj ys=bj (xs++ys):=by simp[bj]
theorem sn(xs:an):(bj xs).length=xs.length:=by simp[bj]
theorem MP(p:J)(n c:Nat)(xs:an)(w:World)(π:a7 w p (bj xs))(ax:xs.length=n)(aj:n<=140737488355328):
  x9.C p n c w (χ λv w'=>∃bT aT,v=.slice bT n aT/\μ w' w.heap.size dk 1 bT n aT (bj xs)/\η w w'):=by
 apply x9.ok;unfold x9.main;refine bz (λh=>?_) λh=>?_
 ·cases p with
  |none=>
   have e:xs=[]:=by have:bj xs=[]:=π;simpa[bj]using this
   subst e;obtain rfl:n=0:=by simpa using ax.symm
   exact χ.mk ⟨none,0,rfl,μ.nil _ _ _ _,η.refl w⟩
  |some a=>cases h
 ·rintro b γ rfl rfl;refine lp (B:=w.heap.size) (μ.alloc (w:=w) [] 5 1 0 rfl) (η.alloc w _).size (bj xs) (π.ex (η.alloc w _)) (by rw[sn];omega) (Ct _) rfl (by omega) (by omega) ?_;intro aX c2 τ kZ ni;have hex:η w τ:=Kp.trans (η.alloc w _) ni (λ_ _ h=>h) (λi o⟨a,aQ,G1⟩=>by cases aQ;dsimp only at G1;omega);rw[mS]at kZ;rw[mS];exact χ.mk ⟨aX,c2,rfl,kZ,hex⟩
theorem Xc(p:J)(n c:Nat)(q:J)(m d:Nat)(xs ys:an)(w:World)(π:a7 w p (bj xs))(ax:xs.length=n)(af:a7 w q (bj ys))(hm:ys.length=m)(ψ:Bytes xs)(jc:Bytes ys):
  Da.C p n c q m d w (χ λv w'=>v=.bool (decide (xs=ys))/\η w w'):=by
 apply Da.ok;unfold Da.main;refine⟨xs,ax,π,ys,hm,af,χ.mk ⟨?_,η.refl w⟩⟩;rw[aez ψ jc]
theorem Qz(p:J)(n c:Nat)(xs:an)(w:World)(π:a7 w p (bj xs))(ax:xs.length=n)(ψ:Bytes xs):
  Ft.C p n c w (χ λv w'=>∃bT eX aT,v=.tuple #[.slice bT eX aT,.int .i64 (Jj xs)]/\eX<=64/\μ w' w.heap.size dk 1 bT eX aT (bj (uc xs))/\η w w'):=by
 apply Ft.ok;unfold Ft.main;by_cases wQ:(n:Int)>60
 ·rw[ud wQ];have e:60<xs.length:=by omega
  refine χ.mk ⟨none,0,0,by rw[Jj,aS e],by omega,?_,η.refl w⟩;rw[uc,aS e];exact μ.nil _ _ _ _
 ·rw[iD wQ];have e:¬60<xs.length:=by omega
  rintro b γ rfl rfl;rw[apJ];have lN:μ (w.alloc (.cells ((List.replicate (64*1) (0:Int)).map (Value.int .u8)).toArray 5)) w.heap.size dk 1 (some ⟨w.heap.size,0,none⟩) 60 64 (bj (List.replicate 60 0)):=by
   have:=μ.made (w:=w) (e:=dk) (sz:=1) (n:=60) (c:=64) (cur:=((List.replicate (64*1) (0:Int)).map (Value.int .u8)).toArray) (fr:=(0,0)) (by omega) (by simp) (wx.zero _)
   have bE:((List.replicate (64*1) (0:Int)).map (Value.int .u8)).toArray.toList.take (60*1)=bj (List.replicate 60 0):=by rw[List.toList_toArray,<-vY,Pf];rfl
   rw[bE]at this;exact this
  refine akg lN (π.ex (η.alloc w _)) (by rw[sn];exact ax) (by omega) (Ct _) ?_;intro τ kZ ni;have gw:bj xs++(bj (List.replicate 60 0)).drop n=bj (pad xs):=by rw[bj,bj,<-xx,List.drop_replicate,<-q0,pad,ax];rfl
  rw[gw]at kZ;have ι:η w τ:=Kp.trans (η.alloc w _) ni (λ_ _ h=>h) (λi o⟨a,aQ,G1⟩=>by cases aQ;dsimp only at G1;omega);refine κ.use (XF _ 60 64 (pad xs) τ kZ.cells (KP (by omega)) (by omega) (adb ψ)) ?_;rintro _ aa ⟨rfl,aG⟩
  try dsimp only[M1]
  rintro θ az rfl rfl;have ω:=ate (more 0#32 (pad xs));have cq:η τ (aa.alloc (.cells #[Value.int .u8 (IntKind.u8.wrap (Int.fdiv (u (more 0#32 (pad xs))) (2^(min 24 IntKind.u32.bits)))),Value.int .u8 (IntKind.u8.wrap (Int.fdiv (u (more 0#32 (pad xs))) (2^(min 16 IntKind.u32.bits)))),Value.int .u8 (IntKind.u8.wrap (Int.fdiv (u (more 0#32 (pad xs))) (2^(min 8 IntKind.u32.bits)))),Value.int .u8 (IntKind.u8.wrap (u (more 0#32 (pad xs))))] 5)):=aG.trans (η.alloc _ _);refine lp (B:=w.heap.size) (kZ.ex cq) (ι.trans cq).size (bj (Lw (more 0#32 (pad xs)))) ?_ (by rw[sn];rfl) (Ct _) rfl (by omega) (by omega) ?_
  ·rw[<-ω];exact a7.alloc _ _
  intro fH iC aE TC yv;have db:η w aE:=Kp.trans (ι.trans cq) yv (λ_ _ h=>h) (λi o⟨a,aQ,G1⟩=>by cases aQ;dsimp only at G1;omega);refine χ.mk ⟨fH,60+4,iC,by rw[Jj,aM e],by omega,?_,db⟩;rw[uc,aM e,kz,<-IE];exact TC
theorem yM{xs:an}{p:J}{n c:Nat}{w:World}{B:Nat}{e:TypeId}(h:μ w B e 1 p n c (bj xs)):xs.length=n:=by
 have:=h.1
 rw[sn,ey]at this;exact this
theorem I0(p:J)(n c:Nat)(xs:an)(w:World)(π:a7 w p (bj xs))(ax:xs.length=n)(jS:n<=c)(ψ:Bytes xs):
  Fu.C p n c w (χ λv w'=>∃bT eX aT,v=.tuple #[.slice bT eX aT,.int .i64 (nq xs)]/\eX<=60/\μ w' w.heap.size dk 1 bT eX aT (bj (xq xs))/\η w w'):=by
 apply Fu.ok;unfold Fu.main;by_cases pU:n=64
 ·subst pU;rw[cond_neg (by decide)];have jq:a7 w (du p c 0 1) (bj (xs.take 60)):=by
   have:=a7.slice π c 0 60 (by rw[sn];omega)
   rw[Pa,bj,<-vY]at this;exact this
  refine aW (by omega) ?_;refine κ.use (Qz _ 60 c (xs.take 60) w jq (by simp;omega) (ψ.take 60)) ?_;rintro _ γ ⟨ab,ay,c1,rfl,qN,lN,h1⟩
  try dsimp only[bX,cC,cD,bk,bH,dY]
  refine κ.use (Xc ab ay c1 p 64 c _ xs γ lN.cells (yM lN) (π.ex h1) ax (aj5 (ψ.take 60)) ψ) ?_;rintro _ τ ⟨rfl,ι⟩
  try dsimp only[dE]
  by_cases he:uc (xs.take 60)=xs
  ·rw[cond_neg (by simp[he])];refine aW (by omega) ?_;refine κ.use (MP _ 60 c (xs.take 60) τ (jq.ex (h1.trans ι)) (by simp;omega) (by omega)) ?_;rintro _ aa ⟨bh,bI,rfl,vD,aG⟩
   try dsimp only[dY]
   refine χ.mk ⟨bh,60,bI,by rw[nq,aS ax,aS he],by omega,?_,(h1.trans ι).trans aG⟩;rw[xq,aS ax,aS he];exact vD.lower (h1.trans ι).size
  ·rw[cond_pos (by simp[he])];refine χ.mk ⟨none,0,0,by rw[nq,aS ax,aM he],by omega,?_,h1.trans ι⟩;rw[xq,aS ax,aM he];exact μ.nil _ _ _ _
 ·rw[cond_pos (by simp;omega)];have aab:¬xs.length=64:=by omega
  refine χ.mk ⟨none,0,0,by rw[nq,aM aab],by omega,?_,η.refl w⟩;rw[xq,aM aab];exact μ.nil _ _ _ _
theorem xE{xs:an}(h:xs.length<=60):(kz xs).length=64:=by simp only[kz,fe,KP h];rfl
theorem Pr{xs:an}(h:xs.length<=60):(kz xs).take 60=pad xs:=by rw[kz,List.take_left' (KP h)]
theorem aqT{xs:an}(h:xs.length<=60):pad (pad xs)=pad xs:=by have e:pad (pad xs)=pad xs++List.replicate (60-(pad xs).length) 0:=rfl;rw[e,KP h];simp
theorem Rs{xs:an}(h:xs.length<=60):uc xs=kz xs:=by rw[uc,aM (by omega)]
theorem YX{xs:an}(h:xs.length<=60):uc ((kz xs).take 60)=kz xs:=by have h1:=KP h;rw[Pr h,Rs (by omega),kz,aqT h];rfl
theorem acY{xs:an}(h:xs.length<=60):nq (kz xs)=0/\xq (kz xs)=pad xs:=by rw[nq,xq,aS (xE h),aS (xE h),aS (YX h),aS (YX h),Pr h];exact⟨rfl,rfl⟩
end Go.Proofs.YtcpdfhkhaekekaaGreat.G
namespace Go.Proofs.YtcpdfhkhaekekaaGreat.G.bt
open Go.bO Go.RowKit
def be:Nat->Int->an
 |0,_=>[]
 |k+1,n=>(n/256^k)%256::be k n
theorem sE:∀(k:Nat)(n:Int),(be k n).length=k
 |0,_=>rfl
 |k+1,n=>by simp[be,sE k n]
theorem Bj:∀(k:Nat)(n:Int),∀x∈be k n,0<=x/\x<256
 |0,_,x,h=>by simp[be]at h
 |k+1,n,x,h=>by
  simp only[be,fA]at h;rcases h with rfl|h
  ·omega
  ·exact Bj k n x h
abbrev bj(xs:an):aU:=xs.map (Value.int .u8)
def nX(s:Nat)(x:Int):Bool:=decide (0<=x)&&decide (x<256^s)
theorem V0(n:Int)(w:World):Dd.C n w (χ λv w'=>v=.bool (decide (1<=n)&&decide (n<=4))/\η w w'):=by
 apply Dd.ok;unfold Dd.main;refine bz (λh=>?_) λh=>?_
 ·refine χ.mk ⟨?_,η.refl w⟩;have h:1<=n:=b7 h;simp[h]
 ·refine χ.mk ⟨?_,η.refl w⟩;have h:¬1<=n:=dd h;simp[h]
theorem fdiv_pow{n:Int}(aD:0<=n){k:Int}{j:Nat}(hk:k=j)(φ:j<=4):Int.fdiv n (2^(min (IntKind.i64.wrap (8*k)).toNat IntKind.i64.bits))=n/256^j:=by
 subst hk;have aO:IntKind.i64.wrap (8*(j:Int))=8*j:=bY (by omega) (by omega);rw[aO];have bE:min (8*(j:Int)).toNat IntKind.i64.bits=8*j:=by show min (8*(j:Int)).toNat 64=8*j;omega
 rw[bE,HX _ (by have:(0:Int)<2^(8*j):=Int.pow_pos (by omega)
                omega)]
 congr 1;rw[Int.pow_mul];rfl
theorem Za{x m:Int}(aD:0<=x)(hm:0<m):x/m=0↔x<m:=by
 constructor
 ·intro h
  have:=Int.mul_ediv_add_emod x m
  have:=OW x hm
  rw[h]at*;omega
 ·intro h;exact K1 aD h
theorem B6(B:Nat)(p:J)(n c:Nat)(xs:an)(s:Nat)(x:Int)(w:World)(aB:μ w B dk 1 p n c (bj xs))(dW:B<=w.heap.size)(h1:1<=s)(cq:s<=4)(aj:n<=140737488351232):
  ub.C p n c s x w (χ λv w'=>∃bT eX aT,v=.tuple #[.slice bT eX aT,.int .i64 (if nX s x then 0 else 5)]/\eX<=n+4/\μ w' B dk 1 bT eX aT (bj (if nX s x then xs++be s x else[]))/\Kp w w' λi=>B<=i):=by
 apply ub.ok;unfold ub.main;by_cases rQ:x<0
 ·rw[ud rQ]
  have:nX s x=false:=by simp[nX];omega
  rw[this];exact χ.mk ⟨none,0,0,rfl,by omega,μ.nil _ _ _ _,Kp.refl _ _⟩
 ·rw[iD rQ];have aO:IntKind.i64.wrap (8*(s:Int))=8*s:=bY (by omega) (by omega);refine aW (by rw[aO];omega) ?_;rw[fdiv_pow (by omega) (j:=s) rfl cq];have hp:(0:Int)<256^s:=Int.pow_pos (by omega);by_cases I:x<256^s
  ·have aL:x/256^s=0:=(Za (by omega) hp).2 I;have dt:nX s x=true:=by simp[nX];exact⟨by omega,I⟩
   rw[cond_neg (by simp[aL]),dt,bY (by omega) (by omega)];refine⟨λab ay c1 ζ a1 γ=>ζ=x/\-1<=a1/\a1<s/\∃ys,ys++be (a1+1).toNat x=xs++be s x/\ay+(a1+1).toNat=n+s/\μ γ B dk 1 ab ay c1 (bj ys)/\Kp w γ λi=>B<=i,λ_ _ _ _ a1 _=>(a1+1).toNat,
    ⟨rfl,by omega,by omega,xs,by rw[show((s:Int)-1+1).toNat=s by omega],by omega,aB,Kp.refl _ _⟩,?_⟩
   rintro ab ay c1 ζ a1 γ ⟨rfl,Hb,oA,ys,El,qN,lN,nP⟩;unfold ub.δ;by_cases hk:a1>=0
   ·rw[ud hk];obtain⟨j,rfl⟩:∃j:Nat,a1=j:=⟨a1.toNat,by omega⟩;have bE:IntKind.i64.wrap (8*(j:Int))=8*j:=bY (by omega) (by omega);refine aW (by rw[bE];omega) ?_;rw[fdiv_pow (by omega) (j:=j) rfl (by omega),wi];intro δ τ ψ hw;subst ψ hw;refine lp (B:=B) (lN.ex (η.alloc γ _)) (fY (fY dW nP.size) (η.alloc γ _).size) [Value.int .u8 (ζ/256^j%256)] (a7.alloc _ _) rfl (by simp[Value.oneCell']) rfl (by omega) (by omega) ?_;intro bT aT w' kZ ni;rw[bY (by omega) (by omega)];refine⟨⟨rfl,by omega,by omega,ys++[ζ/256^j%256],?_,by omega,by simpa[bj]using kZ,?_⟩,by((try dsimp only);omega)⟩
    ·rw[<-El,lT];congr 1;rw[show((j:Int)-1+1).toNat=j by omega,show((j:Int)+1).toNat=j+1 by omega];rfl
    ·refine(nP.trans (η.alloc γ _) (λ_ _ h=>h) λ_ _ h=>h.elim).trans ni (λ_ _ h=>h) ?_;rintro i o ⟨a,aQ,rfl⟩;exact(lN.ge aQ).1
   ·rw[iD hk]
    have:(a1+1).toNat=0:=by omega
    rw[this]at El;simp only[be,pn]at El;subst El;exact χ.mk ⟨ab,ay,c1,rfl,by omega,lN,nP⟩
  ·have aL:x/256^s≠0:=λh=>I ((Za (by omega) hp).1 h);have dt:nX s x=false:=by simp[nX];intro _;omega
   rw[cond_pos (by simpa using aL),dt];exact χ.mk ⟨none,0,0,rfl,by omega,μ.nil _ _ _ _,Kp.refl _ _⟩
theorem Vo{i j:Nat}(h:i<=j):(256:Int)^i<=256^j:=by
 have:=Nat.pow_le_pow_right (n:=256) (by omega) h
 rw[show(256:Int)=((256:Nat):Int)from rfl,<-Int.natCast_pow,<-Int.natCast_pow];exact Int.ofNat_le.2 this
theorem arp{j:Nat}(h:j<=4):(0:Int)<256^j/\(256:Int)^j<=4294967296:=
 ⟨Int.pow_pos (by omega),by have:(256:Int)^j<=256^4:=Vo h
                            have cq:(256:Int)^4=4294967296:=by decide
                            omega⟩
def num(l:an):Int:=l.foldl (λa x=>a*256+x) 0
theorem acu(l:an)(x:Int):num (l++[x])=num l*256+x:=by simp[num]
theorem asW{α:Type}{p:List α->Prop}(aD:p [])(h1:∀l x,p l->p (l++[x])):∀l,p l:=λl=>by
 have key:∀r:List α,p r.reverse:=by
  intro r
  induction r with
  |nil=>exact aD
  |cons x r ch=>rw[List.reverse_cons];exact h1 _ _ ch
 have:=key l.reverse
 rwa[List.reverse_reverse]at this
theorem Ow:∀(l:an),(∀x∈l,0<=x/\x<256)->0<=num l/\num l<256^l.length:=by refine asW (λ_=>by simp[num]) λl x ch h=>?_;obtain⟨aD,h1⟩:=ch λy ah=>h y (by simp[ah]);obtain⟨rQ,BM⟩:=h x (by simp);rw[acu,fe,AA,Int.pow_succ];omega
theorem U4{a x:Int}(aD:0<=a)(h1:a<4294967296)(rQ:0<=x)(BM:x<256):
  IntKind.i64.wrap (BitVec.ofInt IntKind.i64.bits (IntKind.i64.wrap (a*2^(min 8 IntKind.i64.bits)))|||BitVec.ofInt IntKind.i64.bits (IntKind.i64.wrap x)).toNat=a*256+x:=by
 have aO:a*2^(min 8 IntKind.i64.bits)=a*256:=rfl;rw[aO,bY (x:=a*256) (by omega) (by omega),bY (x:=x) (by omega) (by omega)];obtain⟨a,rfl⟩:=eH aD;obtain⟨x,rfl⟩:=eH rQ;have bE:(BitVec.ofInt IntKind.i64.bits ((a:Int)*256)|||BitVec.ofInt IntKind.i64.bits (x:Int)).toNat=a*256+x:=by
  rw[BitVec.toNat_or,show((a:Int)*256)=((a*256:Nat):Int)by simp,BitVec.ofInt_natCast,BitVec.ofInt_natCast,BitVec.toNat_ofNat,BitVec.toNat_ofNat];show a*256%2^64|||x%2^64=_
  rw[K2 (by omega),K2 (by omega)]
  have:=Nat.shiftLeft_add_eq_or_of_lt (i:=8) (b:=x) (by omega) a
  rw[Nat.shiftLeft_eq]at this;exact this.symm
 rw[bE,bY (by omega) (by omega)];omega
theorem a7.Hz{w:World}{k:IntKind}{p:J}{xs:an}(π:a7 w p (xs.map (Value.int k))){j:Nat}(φ:j<xs.length):∃a,p=some a/\w.cell? (a.add j)=some (.int k xs[j]):=by
 cases p with
 |none=>have:xs.map (Value.int k)=[]:=π;simp at this;subst this;simp at φ
 |some a=>exact⟨a,rfl,π j _ (by simp[φ])⟩
theorem ZZ(p:J)(n c:Nat)(xs:an)(w:World)(π:a7 w p (bj xs))(ax:xs.length=n)(cq:n<=4)(ψ:∀x∈xs,0<=x/\x<256):
  ua.C p n c w (χ λv w'=>v=.int .i64 (num xs)/\η w w'):=by
 apply ua.ok;unfold ua.main;refine⟨λa ab ay c1 t i γ=>p=ab/\n=ay/\c=c1/\(n:Int)=t/\∃j:Nat,i=j/\j<=n/\num (xs.take j)=a/\w=γ,λ_ _ _ _ _ i _=>(n-i).toNat,⟨rfl,rfl,rfl,rfl,0,rfl,by omega,rfl,rfl⟩,?_⟩;rintro a _ _ _ _ i γ ⟨rfl,rfl,rfl,rfl,j,rfl,φ,rfl,rfl⟩;unfold ua.δ;by_cases h:(j:Int)<n
 ·rw[ud h];obtain⟨ar,zX,jT⟩:=a7.Hz π (j:=j) (by omega);refine aW (by omega) (aW h (gG zX ?_));have bM:j<xs.length:=by omega
  refine⟨xs[j],by simpa using jT,?_⟩;obtain⟨aD,h1⟩:=Ow (xs.take j) λx I=>ψ x (vW I);have hle:(256:Int)^(xs.take j).length<=4294967296:=(arp (by simp;omega)).2;obtain⟨rQ,BM⟩:=ψ xs[j] (hF _);rw[U4 aD (by omega) rQ BM,bY (by omega) (by omega)];refine⟨⟨rfl,rfl,rfl,rfl,j+1,by omega,by omega,?_,rfl⟩,by((try dsimp only);omega)⟩;rw[k6 bM,acu]
 ·rw[iD h]
  have:j=n:=by omega
  subst this;rw[hc (by omega)];exact χ.mk ⟨rfl,η.refl _⟩
def ow(n:Nat)(at_ s:Int):Int:=if decide (1<=s)&&decide (s<=4)then(if decide (0<=at_)&&decide (at_+s<=n)then 0 else 3)else 1
def yi(xs:an)(at_ s:Int):Int:=if decide (1<=s)&&decide (s<=4)then(if decide (0<=at_)&&decide (at_+s<=xs.length)then num ((xs.drop at_.toNat).take s.toNat)else 0)else 0
theorem alR{s:Int}(h:s<1\/4<s)(xs:an)(n:Nat)(at_:Int):yi xs at_ s=0/\ow n at_ s=1:=by
 have:(decide (1<=s)&&decide (s<=4))=false:=by simp;omega
 simp[yi,ow,this]
theorem ZY{s at_:Int}(h1:1<=s)(cq:s<=4){xs:an}{n:Nat}(ax:xs.length=n)(h:at_<0\/(n:Int)<at_+s):yi xs at_ s=0/\ow n at_ s=3:=by
 have aO:(decide (1<=s)&&decide (s<=4))=true:=by simp;omega
 have bE:(decide (0<=at_)&&decide (at_+s<=(n:Int)))=false:=by simp;omega
 simp[yi,ow,aO,ax,bE]
theorem Sw{s at_:Int}(h1:1<=s)(cq:s<=4){xs:an}{n:Nat}(ax:xs.length=n)(aD:0<=at_)(h:at_+s<=n):yi xs at_ s=num ((xs.drop at_.toNat).take s.toNat)/\ow n at_ s=0:=by
 have aO:(decide (1<=s)&&decide (s<=4))=true:=by simp;omega
 have bE:(decide (0<=at_)&&decide (at_+s<=(n:Int)))=true:=by simp;omega
 simp[yi,ow,aO,ax,bE]
theorem xW(p:J)(n c:Nat)(xs:an)(at_ s:Int)(w:World)(π:a7 w p (bj xs))(ax:xs.length=n)(jS:n<=c)(aj:n<=140737488351232)(ψ:∀x∈xs,0<=x/\x<256)
  (awQ:-9223372036854775808<=at_)(aQ:at_<=9223372036854775807):
  Dc.C p n c at_ s w (χ λv w'=>v=.tuple #[.int .i64 (yi xs at_ s),.int .i64 (ow n at_ s)]/\η w w'):=by
 apply Dc.ok;unfold Dc.main;refine κ.use (V0 s w) ?_;rintro _ γ ⟨rfl,h1⟩
 try dsimp only[dE]
 cases ft:(decide (1<=s)&&decide (s<=4))with
 |false=>
  simp only[uO,yR,r9,vX];obtain⟨aO,bE⟩:=alR (s:=s) (by simp at ft;omega) xs n at_;rw[aO,bE];exact χ.mk ⟨rfl,h1⟩
 |true=>
  simp only[uO,yR,r9,vX];simp only[kx,po]at ft;by_cases bM:at_<0
  ·obtain⟨aO,bE⟩:=ZY ft.1 ft.2 ax (.inl bM);rw[ud bM,aO,bE];exact χ.mk ⟨rfl,h1⟩
  rw[iD bM];rw[bY (x:=(n:Int)-s) (by omega) (by omega)];by_cases aaM:at_>n-s
  ·obtain⟨aO,bE⟩:=ZY ft.1 ft.2 ax (at_:=at_) (.inr (by omega));rw[ud aaM,aO,bE];exact χ.mk ⟨rfl,h1⟩
  obtain⟨aO,bE⟩:=Sw ft.1 ft.2 ax (at_:=at_) (by omega) (by omega);rw[iD aaM,aO,bE];rw[bY (x:=at_+s) (by omega) (by omega)];refine aW (by omega) (aW (by omega) (aW (by omega) (aW (by omega) ?_)));have mN:(at_+s).toNat-at_.toNat=s.toNat:=by omega
  rw[mN];have jq:a7 γ (du p c at_.toNat 1) (bj ((xs.drop at_.toNat).take s.toNat)):=by
   have:=a7.slice (π.ex h1) c at_.toNat s.toNat (by simp;omega)
   simpa[bj,vY,xx]using this
  refine κ.use (ZZ _ s.toNat _ ((xs.drop at_.toNat).take s.toNat) γ jq (by simp;omega) (by omega) λx I=>ψ x (HY (vW I))) ?_;rintro _ τ ⟨rfl,ι⟩
  try dsimp only[bH]
  exact χ.mk ⟨rfl,h1.trans ι⟩
def v64(l:an):aU:=l.map (.int .i64)
def Li(s:Int)(l:an):Int:=if decide (1<=s)&&decide (s<=4)then(if l.all (nX s.toNat)then 0 else 5)else 1
def oW(s:Int)(l:an):an:=if decide (1<=s)&&decide (s<=4)then(if l.all (nX s.toNat)then l.flatMap (be s.toNat)else[])else[]
theorem asf{s:Int}(h:s<1\/4<s)(l:an):Li s l=1/\oW s l=[]:=by
 have:(decide (1<=s)&&decide (s<=4))=false:=by simp;omega
 simp[Li,oW,this]
theorem Ii{k:Nat}(h1:1<=k)(cq:k<=4)(l:an):Li k l=(if l.all (nX k)then 0 else 5)/\oW k l=(if l.all (nX k)then l.flatMap (be k)else[]):=by
 have:(decide (1<=(k:Int))&&decide ((k:Int)<=4))=true:=by simp;omega
 simp[Li,oW,this]
theorem ase(k:Nat)(l:an):(l.flatMap (be k)).length=l.length*k:=by
 induction l with
 |nil=>simp
 |cons x r ch=>simp[yS,sE,ch,k7];omega
theorem Zs{w w':World}(h:Kp w w' λi=>w.heap.size<=i):η w w':=h.mono λi o ψ=>by omega
theorem ap9{l:an}{j:Nat}(φ:j<l.length){f:Int->Bool}(h:f l[j]=false):l.all f=false:=by rw[List.all_eq_false];exact⟨l[j],hF _,by simp[h]⟩
theorem ajq{l:an}{j:Nat}(φ:j<l.length){f:Int->Bool}(h:f l[j]=true)(aQ:(l.take j).all f=true):(l.take (j+1)).all f=true:=by rw[k6 φ,K3,aQ];simp[h]
theorem alG{l:an}{j:Nat}(φ:j<l.length)(f:Int->an):(l.take (j+1)).flatMap f=(l.take j).flatMap f++f l[j]:=by rw[k6 φ,vZ];simp[yS]
theorem Xx(p:J)(n c:Nat)(l:an)(s:Int)(w:World)(π:a7 w p (v64 l))(ax:l.length=n)(aj:n<=1048576):
  sF.C s p n c w (χ λv w'=>∃bT eX aT,v=.tuple #[.slice bT eX aT,.int .i64 (Li s l)]/\eX<=4*n/\μ w' w.heap.size dk 1 bT eX aT (bj (oW s l))/\η w w'):=by
 apply sF.ok;unfold sF.main;refine κ.use (V0 s w) ?_;rintro _ γ ⟨rfl,h1⟩
 try dsimp only[dE]
 by_cases ω:s<1\/4<s
 ·obtain⟨aO,bE⟩:=asf ω l;rw[cond_pos (by simp;omega),aO,bE];exact χ.mk ⟨none,0,0,rfl,by omega,μ.nil _ _ _ _,h1⟩
 ·obtain⟨k,rfl⟩:∃k:Nat,s=k:=⟨s.toNat,by omega⟩;have vC:1<=k:=by omega
  have ux:k<=4:=by omega
  obtain⟨aO,bE⟩:=Ii vC ux l;rw[cond_neg (by simp;omega),aO,bE];unfold sF.bd;refine⟨λs1 q m d ab ay c1 t i τ=>(k:Int)=s1/\p=ab/\n=ay/\c=c1/\(n:Int)=t/\∃j:Nat,i=j/\j<=n/\(l.take j).all (nX k)=true/\m=j*k/\μ τ w.heap.size dk 1 q m d (bj ((l.take j).flatMap (be k)))/\η w τ,
   λ_ _ _ _ _ _ _ _ i _=>(n-i).toNat,⟨rfl,rfl,rfl,rfl,rfl,0,rfl,by omega,by simp,by omega,by simpa using μ.nil _ _ _ _,h1⟩,?_⟩
  rintro _ q m d _ _ _ _ _ τ ⟨rfl,rfl,rfl,rfl,rfl,j,rfl,φ,dR,rfl,aB,ι⟩;unfold sF.δ;by_cases bM:(j:Int)<n
  ·have sV:j<l.length:=by omega
   rw[ud bM];obtain⟨ar,zX,jT⟩:=a7.Hz (π.ex ι) sV;refine aW (by omega) (aW (by omega) (gG zX ?_));refine⟨l[j],by simpa using jT,?_⟩;have pU:j*k<=1048576*4:=Nat.mul_le_mul (by omega) ux;refine κ.use (B6 w.heap.size q (j*k) d ((l.take j).flatMap (be k)) k l[j] τ aB ι.size vC ux (by omega)) ?_;rintro _ aa ⟨oQ,m',d',rfl,axf,vD,aG⟩
   try dsimp only[bX,cC,cD,bk,bH,dY]
   have hex:η w aa:=Zs ((Kp.mono ι λ_ _ h=>h.elim).trans aG (λ_ _ h=>h) λ_ _ h=>h);cases dt:nX k l[j]with
   |false=>
    rw[cond_pos (by decide)];rw[ap9 sV dt];exact χ.mk ⟨none,0,0,rfl,by omega,μ.nil _ _ _ _,hex⟩
   |true=>
    rw[dt]at vD;simp only[oR]at vD;rw[cond_neg (by decide),bY (by omega) (by omega)];refine⟨⟨rfl,rfl,rfl,rfl,rfl,j+1,by omega,by omega,ajq sV dt dR,?_,?_,hex⟩,by((try dsimp only);omega)⟩
    ·have:=vD.1
     simp only[bj,jV,fe,ase,sE,gQ]at this;rw[qZ (by omega)]at this;rw[k7];omega
    ·rw[alG sV];exact vD
  ·rw[iD bM]
   have:j=l.length:=by omega
   subst this;rw[AB]at dR aB;rw[dR];simp only[oR];refine χ.mk ⟨q,_,d,rfl,?_,aB,ι⟩
   have:l.length*k<=l.length*4:=Nat.mul_le_mul_left _ ux
   omega
def LS(s:Int)(n:Nat):Int:=if decide (1<=s)&&decide (s<=4)then(if n%s.toNat=0 then 0 else 6)else 1
def mH(k:Nat)(xs:an)(i:Nat):Int:=num ((xs.drop (i*k)).take k)
def jx(k m:Nat)(xs:an):an:=(List.range m).map (mH k xs)
def ID(s:Int)(xs:an):an:=if decide (1<=s)&&decide (s<=4)then(if xs.length%s.toNat=0 then jx s.toNat (xs.length/s.toNat) xs else[])else[]
theorem avF{s:Int}(h:s<1\/4<s)(n:Nat)(xs:an):LS s n=1/\ID s xs=[]:=by
 have:(decide (1<=s)&&decide (s<=4))=false:=by simp;omega
 simp[LS,ID,this]
theorem agJ{k:Nat}(h1:1<=k)(cq:k<=4)(n:Nat)(xs:an):LS k n=(if n%k=0 then 0 else 6)/\ID k xs=(if xs.length%k=0 then jx k (xs.length/k) xs else[]):=by
 have:(decide (1<=(k:Int))&&decide ((k:Int)<=4))=true:=by simp;omega
 simp[LS,ID,this]
theorem avB(k m:Nat)(xs:an):jx k (m+1) xs=jx k m xs++[mH k xs m]:=by simp[jx,uP]
theorem Wt(k m:Nat)(xs:an):(jx k m xs).length=m:=by simp[jx]
theorem aja(p:J)(n c:Nat)(xs:an)(s:Int)(w:World)(π:a7 w p (bj xs))(ax:xs.length=n)(jS:n<=c)(aj:n<=8388608)(ψ:∀x∈xs,0<=x/\x<256):
  sG.C p n c s w (χ λv w'=>∃bT eX aT,v=.tuple #[.slice bT eX aT,.int .i64 (LS s n)]/\eX<=n/\μ w' w.heap.size cj 1 bT eX aT (v64 (ID s xs))/\η w w'):=by
 apply sG.ok;unfold sG.main;refine κ.use (V0 s w) ?_;rintro _ γ ⟨rfl,h1⟩
 try dsimp only[dE]
 by_cases ω:s<1\/4<s
 ·obtain⟨aO,bE⟩:=avF ω n xs;rw[cond_pos (by simp;omega),aO,bE];exact χ.mk ⟨none,0,0,rfl,by omega,μ.nil _ _ _ _,h1⟩
 obtain⟨k,rfl⟩:∃k:Nat,s=k:=⟨s.toNat,by omega⟩;have vC:1<=k:=by omega
 have ux:k<=4:=by omega
 obtain⟨aO,bE⟩:=agJ vC ux n xs;rw[cond_neg (by simp;omega),aO,bE];refine aW (by omega) ?_;have em:Int.tmod (n:Int) (k:Int)=((n%k:Nat):Int):=by simp[Int.tmod]
 rw[em,ax];by_cases aL:n%k=0
 ·rw[cond_neg (by simp[aL]),aS aL,aS aL];obtain⟨q,rfl⟩:∃q,n=q*k:=⟨n/k,by rw[Nat.mul_comm];exact(Nat.mul_div_cancel' (Nat.dvd_of_mod_eq_zero aL)).symm⟩;rw[Nat.mul_div_cancel _ (by omega)];unfold sG.bd;refine⟨λab ay c1 s1 r m d τ=>(k:Int)=s1/\ay<=c1/\m*k+ay=q*k/\a7 w ab (bj (xs.drop (m*k)))/\μ τ w.heap.size cj 1 r m d (v64 (jx k m xs))/\η w τ,
   λ_ ay _ _ _ _ _ _=>ay,⟨rfl,jS,by omega,by simpa using π,by simpa[jx,v64]using μ.nil _ _ _ _,h1⟩,?_⟩
  rintro ab ay c1 _ r m d τ ⟨rfl,BA,hm,jq,aB,ι⟩;unfold sG.δ;have anO:m*k+ay<=8388608:=by omega
  have BF:m<=m*k:=Nat.le_mul_of_pos_right _ (by omega);by_cases aD:(ay:Int)>0
  ·rw[ud aD];have aaT:k<=ay:=by
    have bM:m<q:=Nat.lt_of_mul_lt_mul_right (a:=k) (by omega)
    have:=tf k (show m+1<=q by omega)
    rw[k7]at this;omega
   refine aW (by omega) (aW (by omega) ?_);have wX:(xs.drop (m*k)).length=ay:=by rw[ky];omega
   have JO:a7 τ (du ab c1 0 1) (bj ((xs.drop (m*k)).take k)):=by
    have:=a7.slice (jq.ex ι) c1 0 k (by simp[bj,wX];omega)
    simpa[bj,vY]using this
   rw[cy];refine κ.use (ZZ _ k c1 ((xs.drop (m*k)).take k) τ JO (by simp;omega) ux λx I=>ψ x (HY (vW I))) ?_;rintro _ aa ⟨rfl,aG⟩
   try dsimp only[bH]
   rintro b az rfl rfl;refine lp (B:=w.heap.size) ((aB.ex aG).ex (η.alloc aa _)) ((ι.trans aG).trans (η.alloc aa _)).size [Value.int .i64 (mH k xs m)] (a7.alloc _ _) rfl (by simp[Value.oneCell']) rfl (by omega) (by omega) ?_;intro aX c2 aE TC yv;have hex:η w aE:=Zs (Kp.trans ((ι.trans aG).trans (η.alloc aa _)) yv (λ_ _ h=>h.elim) λi o⟨a,aQ,G1⟩=>by have:=(aB.ge aQ).1;omega);refine aW (by omega) (aW (by omega) ⟨⟨rfl,by omega,?_,?_,?_,hex⟩,?_⟩)
   ·rw[k7];omega
   ·have:=a7.slice jq c1 k (ay-k) (by simp[bj,wX];omega)
    rw[bj,<-xx,<-vY,OX,hc (by rw[ky];omega)]at this;rw[k7,Fb];exact this
   ·rw[avB];simpa[v64]using TC
   ·omega
  ·rw[iD aD]
   have:ay=0:=by omega
   subst this
   have:m=q:=Nat.eq_of_mul_eq_mul_right (by omega) hm
   subst this;exact χ.mk ⟨r,m,d,rfl,by omega,aB,ι⟩
 ·rw[cond_pos (by simp;omega),aM aL,aM aL];exact χ.mk ⟨none,0,0,rfl,by omega,μ.nil _ _ _ _,h1⟩
end Go.Proofs.YtcpdfhkhaekekaaGreat.G.bt
namespace Go.bO
def vf(W:World)(B:Nat)(i:Nat):Prop:=B<=i/\∃ε:Obj,W.heap[i]?=some ε/\ε.isCells=false
theorem Kp.grown{B:Nat}{W b6:World}{row:Option Nat}(bJ:W.grownBy b6 row)(υ:∀r,row=some r->B<=r/\∃ε:Obj,W.heap[r]?=some ε/\ε.isCells=false):Kp W b6 (vf W B):=
 ⟨bJ.os,bJ.tape,bJ.output,bJ.size,λi o ax=>bJ.block i o λe=>ax (υ i e.symm)⟩
theorem Kp.putObj(W:World)(l:Nat)(ε:Obj):Kp W (W.putObj l ε) λi=>i=l:=
 have bJ:=grownBy_putObj' W l ε
 ⟨bJ.os,bJ.tape,bJ.output,bJ.size,λi o ax=>bJ.block i o λe=>ax (by cases e;rfl)⟩
theorem vf.typed{W:World}{B i:Nat}{e:TypeId}(h:vf W B i)(t:Typed W e i):False:=by obtain⟨_,ε,aB,π⟩:=h;obtain⟨cur,fr,aP⟩:=t;rw[aB]at aP;cases aP;cases π
theorem μ.grown{W b6:World}{B C:Nat}{e:TypeId}{sz:Nat}{p:J}{n c:Nat}{xs:aU}(h:μ W B e sz p n c xs)(k:Kp W b6 (vf W C)):μ b6 B e sz p n c xs:=
 h.aH k λx I ax=>ax.typed (h.typed I).1
theorem Kp.later{w W b6:World}{S:bf}{B:Nat}(h:Kp w W S)(k:Kp W b6 (vf W B))(dW:w.heap.size<=B):Kp w b6 S:=
 Kp.trans h k (λ_ _ h=>h) λi o ax=>absurd ax.1 (by omega)
theorem KeepsOthers.acQ{w w':World}{S:bf}(k:Kp w w' S)(ep:∀i,i<w.heap.size->S i->∃e,Typed w e i):KeepsOthers w w':=
 ⟨k.size,λi ε o aB=>by
  have bM:i<w.heap.size:=(Array.getElem?_eq_some_iff.1 o).1;rw[k.block i bM λω=>?_]
  ·exact o
  ·obtain⟨e,cur,fr,aP⟩:=ep i bM ω;rw[o]at aP;cases aP;cases aB⟩
theorem Z1(W:World):W.grownBy W.drew none:=⟨rfl,rfl,rfl,ew _,λ_ _ _=>rfl⟩
theorem Io(p:J)(m s:Nat):du p m 0 s=p:=by
 unfold du;split
 ·rfl
 ·cases p with
  |none=>rfl
  |some a=>simp[Addr.add_zero']
def Gr(dP dQ:Nat)(v0 v1:Value)(w:World):Prop:=w.cell? (⟨dP,0,none⟩:Addr)=some v0/\w.cell? (⟨dQ,0,none⟩:Addr)=some v1
def vd(dP dQ:Nat)(A B:World):Prop:=∀v0 v1,Gr dP dQ v0 v1 A->Gr dP dQ v0 v1 B
theorem vd.trans{dP dQ:Nat}{A B C:World}(h:vd dP dQ A B)(k:vd dP dQ B C):vd dP dQ A C:=λv0 v1 c=>k v0 v1 (h v0 v1 c)
theorem YT{W:World}{l:Nat}{ε hD:Obj}(h:W.heap[l]?=some ε)(π:ε.isCells=false){a:Addr}{v:Value}(aJ:W.cell? a=some v):(W.putObj l hD).cell? a=some v:=by refine(Kp.putObj W l hD).cell aJ λe=>?_;unfold World.cell? at aJ;rw[e,h]at aJ;cases ε<;>first|(simp at aJ;done)|(cases π;done)
theorem vd.book{dP dQ:Nat}(W:World)(l:Nat)(ε hD:Obj)(h:W.heap[l]?=some ε)(π:ε.isCells=false):vd dP dQ W (W.putObj l hD):=λv0 v1 c=>⟨YT h π c.1,YT h π c.2⟩
end Go.bO
namespace Go.Proofs.YtcpdfhkhaekekaaGreat.G
open Tryz
open Go.bO Go.RowKit
def hn:aU:=[.int .i64 0,.int .i64 0,.int .i64 0,.int .i64 0,.int .i64 0,.int .i64 0,.int .i64 0,.int .i64 0,.int .i64 0,.int .i64 0,.int .i64 0,.int .i64 0,.int .i64 0,.int .i64 0,.int .i64 0,.int .i64 0,.slice none 0 0,.slice none 0 0,.slice none 0 0,.slice none 0 0,.slice none 0 0,.slice none 0 0,.slice none 0 0,.slice none 0 0]
theorem awj:∀z∈hn,z.oneCell'=true:=by
 intro z aL
 have:z=.int .i64 0\/z=.slice none 0 0:=by simp only[hn,fA,n1,oS]at aL;rcases aL with h|h|h|h|h|h|h|h|h|h|h|h|h|h|h|h|h|h|h|h|h|h|h|h<;>simp[h]
 rcases this with rfl|rfl<;>rfl
theorem mW{a b:Int}:∀z∈[Value.int .i64 a,.int .i64 b],z.oneCell'=true:=by intro z aL;simp only[fA,n1,oS]at aL;rcases aL with rfl|rfl<;>rfl
theorem z8(n a b:Int)(w:World):yf.C n a b w (χ λv w'=>v=.bool (decide (a<=n)&&decide (n<b))/\w'=w):=by
 apply yf.ok;unfold yf.main;refine bz (λh=>?_) λh=>?_
 ·have h:a<=n:=b7 h;exact χ.mk ⟨by simp[h],rfl⟩
 ·have h:¬a<=n:=dd h;exact χ.mk ⟨by simp[h],rfl⟩
theorem zw(b k:Nat):(⟨b,16,none⟩:Addr).add (k*1)=⟨b,16+k,none⟩:=by rw[Addr.add_lit,ey]
theorem Gm{k:Nat}(h:k<8):IntKind.i64.wrap ((k:Int)+1)=((k+1:Nat):Int):=by rw[bY (by omega) (by omega)];rfl
theorem B6{w:World}{B:Nat}{p:J}{n c:Nat}{xs:an}(ε:μ w B dk 1 p n c (bj xs))(dW:B<=w.heap.size)(s:Int){q:J}{m d:Nat}{l:an}(π:a7 w q (bt.v64 l))(aj:l.length=m)(hm:m<=1000)(ax:n<=1000000):
  Ep.C p n c s q m d w (χ λv w'=>∃bT aT,v=.slice bT (n+(bt.oW s l).length) aT/\μ w' B dk 1 bT (n+(bt.oW s l).length) aT (bj (xs++bt.oW s l))/\Kp w w' λi=>∃x,p=some x/\x.block=i):=by
 apply Ep.ok;unfold Ep.main;refine κ.use (bt.Xx q m d l s w π aj (by omega)) ?_;rintro _ γ ⟨ab,ay,c1,rfl,qN,ρ,ζ⟩
 try dsimp only[bX,cC,cD,bk,bH,dY]
 have hlen:(bt.oW s l).length=ay:=by have:=yM (xs:=bt.oW s l) ρ;exact this
 refine lp (B:=B) (ε.ex ζ) (fY dW ζ.size) (bj (bt.oW s l)) ρ.cells (by rw[sn,hlen,ey]) (Ct _) rfl (by omega) (by omega) ?_;intro aX c2 τ ai bP;rw[<-hlen]at ai⊢;refine χ.mk ⟨aX,c2,rfl,by rw[<-IE];exact ai,Kp.trans (ζ.aH _) bP (λi _ h=>h) λi _ h=>h⟩
theorem ad0(p:J)(n c:Nat)(xs:an)(w:World)(π:a7 w p (bj xs))(ax:xs.length=n)(ψ:Bytes xs)(wQ:n<=60):
  Et.C p n c w (χ λv w'=>∃bT aT,v=.slice bT 64 aT/\μ w' w.heap.size dk 1 bT 64 aT (bj (kz xs))/\η w w'):=by
 apply Et.ok;unfold Et.main;refine κ.use (Qz p n c xs w π ax ψ) ?_;rintro _ γ ⟨ab,ay,c1,rfl,qN,ρ,ζ⟩
 try dsimp only[bX,cC,cD,bk,bH,dY]
 have fV:uc xs=kz xs:=Rs (by omega);rw[fV]at ρ
 have:ay=64:=by have:=yM ρ;rw[xE (by omega)]at this;exact this.symm
 subst this;exact χ.mk ⟨ab,c1,rfl,ρ,ζ⟩
theorem adV(a b:Int)(aQ:0<=a/\a<256)(ψ:0<=b/\b<256):bt.oW 1 [a,b]=[a,b]:=by
 have:=(bt.Ii (k:=1) (by omega) (by omega) [a,b]).2
 have e:((1:Nat):Int)=1:=rfl;rw[e]at this;rw[this,aS (by simp[bt.nX];omega)];simp[bt.be];omega
end Go.Proofs.YtcpdfhkhaekekaaGreat.G
namespace Go.Proofs.YtcpdfhkhaekekaaGreat.G
open Tryz
open Go.bO Go.RowKit
def la:an:=[83,76,65,84]
def eO(w:World)(b:Nat)(l:an):Prop:=μ w 0 cj 1 (some ⟨b,0,none⟩) l.length l.length (bt.v64 l)
def c5(W w:World)(p:J)(n c:Nat)(xs:an):Prop:=μ w W.heap.size dk 1 p n c (bj xs)
def Raw(W w:World)(b:Nat):Prop:=W.heap.size<=b/\w.heap[b]?=some (.cells (bj la).toArray dk (0,0))
theorem eO.ex{w w':World}{b:Nat}{l:an}(h:eO w b l)(x:η w w'):eO w' b l:=μ.ex h x
theorem c5.ex{W w w':World}{p:J}{n c:Nat}{xs:an}(h:c5 W w p n c xs)(x:η w w'):c5 W w' p n c xs:=μ.ex h x
theorem Raw.ex{W w w':World}{b:Nat}(h:Raw W w b)(x:η w w'):Raw W w' b:=⟨h.1,by rw[x.block b (Array.getElem?_eq_some_iff.1 h.2).1 id];exact h.2⟩
theorem gZ{W w:World}(I:η W w)(l:an){N:Nat->ao}(K:∀b w',η w w'->eO w' b l->N b w'):aN w (bt.v64 l).toArray cj N:=by rintro b w' rfl rfl;have ε:=μ.alloc (w:=w) (bt.v64 l) cj 1 l.length (by simp[bt.v64]);exact K _ _ (η.alloc w _) (ε.lower (en _))
theorem BX{W w:World}(I:η W w){N:Nat->ao}(K:∀b w',η w w'->Raw W w' b->N b w'):aN w (bj la).toArray dk N:=by rintro b w' rfl rfl;exact K _ _ (η.alloc w _) ⟨I.size,DY w _⟩
theorem mark{W w:World}{b:Nat}(I:η W w)(h:Raw W w b){N:ao}(K:∀w',η W w'->(∀b l,eO w b l->eO w' b l)->c5 W w' (some ⟨b,0,none⟩) 4 4 la->N w'):xi w ⟨b,0,none⟩ N:=by
 refine⟨_,_,_,h.2,λw' hw=>?_⟩;subst hw;have k:=Kp.freeze w ⟨b,(bj la).toArray.size,none⟩ 1;have t:Typed w dk b:=⟨_,_,h.2⟩;refine K _ (I.then k λi o=>?_) (λgL l ψ=>?_) ?_
 ·dsimp only at o;rw[o];exact h.1
 ·exact μ.cB ψ k dk (λi o=>by dsimp only at o;rw[o];exact t) (by decide)
 ·refine⟨rfl,ew _,.inr ⟨b,(bj la).toArray,(4,5),rfl,h.1,?_,.inr (by decide),by decide,rfl⟩⟩;unfold World.freeze;simp[h.2,Array.getElem?_modify];rfl
theorem arv{W w:World}{N:Value->ao}{X:List PanicEntry->ao}(I:η W w){p:J}{n c:Nat}{xs:an}(h1:c5 W w p n c xs){b:Nat}{l:an}(ι:eO w b l){s:Int}{r:an}(υ:bt.oW s l=r)(ax:n<=1000)(aj:l.length<=10)
  (K:∀p c w',η W w'->(∀b l,eO w b l->eO w' b l)->c5 W w' p (n+r.length) c (xs++r)->N (.slice p (n+r.length) c) w'):κ prog 139 #[.slice p n c,.int .i64 s,.slice (some ⟨b,0,none⟩) l.length l.length] w N X:=by
 refine κ.use (B6 h1 I.size s (μ.cells ι) rfl (by omega) (by omega)) ?_;rintro _ w' ⟨bT,aT,rfl,ε,k⟩;rw[υ]at ε⊢;refine K bT aT w' (I.then k λi⟨x,e,o⟩=>by have:=(μ.ge h1 e).1;omega) (λgL mO ψ=>?_) ε;exact μ.cB ψ k dk (λi⟨x,e,o⟩=>o▸(μ.typed h1 e).1) (by decide)
end Go.Proofs.YtcpdfhkhaekekaaGreat.G
namespace Go.Proofs.YtcpdfhkhaekekaaGreat.G
open Go.bO Go.RowKit
theorem Qy(p:J)(n c:Nat)(w:World):Fy.C p n c 52 w (χ λv w'=>∃dP dQ,v=.func (.func 172) #[] #[.pointer (some ⟨dP,0,none⟩),.pointer (some ⟨dQ,0,none⟩)]/\η w w'/\μ w' w.heap.size gI 1 (some ⟨dP,0,none⟩) 1 1 [.slice p n c]/\μ w' w.heap.size cj 1 (some ⟨dQ,0,none⟩) 1 1 [.int .i64 52]):=by apply Fy.ok;unfold Fy.main;rintro δ γ rfl rfl θ τ rfl rfl;have ρ:=μ.new (w:=w) [.slice p n c] gI;have ζ:=η.alloc w (.cells [Value.slice p n c].toArray gI);generalize w.alloc (.cells #[.slice p n c] gI)=γ at ρ ζ⊢;have ai:=μ.new (w:=γ) [.int .i64 52] cj;have σ:=η.alloc γ (.cells [Value.int .i64 52].toArray cj);generalize γ.alloc (.cells #[.int .i64 52] cj)=τ at ai σ⊢;refine⟨52,ai.at (by rfl),?_⟩;rw[iD (by omega)];exact χ.mk ⟨_,_,rfl,ζ.trans σ,ρ.ex σ,ai.lower ζ.size⟩
theorem aee{p:J}{n c:Nat}:∀y∈[Value.slice p n c],y.oneCell'=true:=by intro y ah;simp only[lB]at ah;rw[ah];rfl
theorem OG{xs:an}(h:nq xs=0):xs.length=64/\xq xs=xs.take 60:=by
 unfold nq at h;unfold xq;split at h
 ·rename_i aj;rw[aS aj];split at h
  ·rename_i π;exact⟨aj,by rw[aS π]⟩
  ·cases h
 ·cases h
def c9(xs:an)(a s:Int):Int:=bt.yi (xs.take 60) a s
def By(xs:an):Prop:=nq xs=0/\(xs.take 60).take 4=la
instance(xs:an):Decidable (By xs):=inferInstanceAs (Decidable (_/\_))
def pX(xs:an):an:=if By xs then[c9 xs 4 4,c9 xs 8 1,c9 xs 9 1,c9 xs 10 1,c9 xs 11 2]else[0,0,0,0,0]
def mh(xs:an):Bool:=decide (By xs)&&decide (1<=c9 xs 4 4)&&decide (c9 xs 4 4<=1073741824)&&decide (c9 xs 10 1<12)
theorem Tb(xs:an):(pX xs).length=5:=by unfold pX;split<;>rfl
theorem LV(l:an):∀z∈bt.v64 l,z.oneCell'=true:=IF _ _
theorem asP:(⟨#[83,76,65,84]⟩:ByteArray)=strOf la:=by decide
theorem aed:Bytes la:=λx I=>by simp only[la,fA,n1,oS]at I;omega
theorem Jz{w:World}{B dP:Nat}{p:J}{n c:Nat}{t:an}(ha:μ w B gI 1 (some ⟨dP,0,none⟩) 1 1 [.slice p n c])(π:a7 w p (bj t))(ax:t.length=n)(jS:n<=c)(aj:n<=1000000)(ψ:Bytes t)(a s:Int)(aQ:0<=a/\a<=1000):
  Es.C a s dP w (χ λv w'=>v=.int .i64 (bt.yi t a s)/\η w w'):=by
 apply Es.ok;unfold Es.main;refine⟨p,n,c,ha.at (by rfl),?_⟩;refine κ.use (bt.xW p n c t a s w π ax jS (by omega) ψ (by omega) (by omega)) ?_;rintro _ γ ⟨rfl,ζ⟩
 try dsimp only[bX,cC,cD,bk,bH]
 exact χ.mk ⟨rfl,ζ⟩
theorem Ib(p:J)(n c:Nat)(xs:an)(w:World)(π:a7 w p (bj xs))(ax:xs.length=n)(jS:n<=c)(ψ:Bytes xs):
  Er.C p n c w (χ λv w'=>v=.tuple #[.agg (bt.v64 (pX xs)).toArray,.bool (mh xs)]/\η w w'):=by
 apply Er.ok;unfold Er.main;rintro δ γ rfl rfl;have ρ:=μ.new (w:=w) (bt.v64 [0,0,0,0,0]) nx;have ζ:=η.alloc w (.cells (bt.v64 [0,0,0,0,0]).toArray nx);have aO:w.alloc (.cells #[.int .i64 0,.int .i64 0,.int .i64 0,.int .i64 0,.int .i64 0] nx)=w.alloc (.cells (bt.v64 [0,0,0,0,0]).toArray nx):=rfl;have G8:w.heap.size<=w.heap.size:=ew _;generalize ej:w.heap.size=δ at ρ G8⊢;have G8:w.heap.size<=δ:=by omega
 rw[aO];generalize w.alloc (.cells (bt.v64 [0,0,0,0,0]).toArray nx)=γ at ρ ζ⊢;refine κ.use (I0 p n c xs γ (π.ex ζ) ax jS ψ) ?_;rintro _ τ ⟨ab,ay,c1,rfl,qN,uJ,σ⟩
 try dsimp only[bX,cC,cD,bk,bH,dY]
 rintro θ az rfl rfl;have ai:=μ.new (w:=τ) [.slice none 0 0] gI;have aA:=η.alloc τ (.cells [Value.slice none 0 0].toArray gI);have eu:γ.heap.size<=τ.heap.size:=σ.size;have aan:δ<γ.heap.size:=(ρ.ge rfl).2;have Eh:w.heap.size<=γ.heap.size:=ζ.size;generalize τ.heap.size=θ at ai eu⊢;generalize τ.alloc (.cells #[.slice none 0 0] gI)=az at ai aA⊢;refine ai.da (H8 0) (by rfl) λaE dN cu=>?_;have j7:=σ.trans aA;have rY:∀i,i=θ->γ.heap.size<=i:=λi o=>by omega
 have l3:η γ aE:=j7.then dN rY;have ak:η w aE:=ζ.trans l3;have As:μ aE γ.heap.size dk 1 ab ay c1 (bj (xq xs)):=(uJ.ex aA).cB dN gI (λi o=>by rw[o];exact(ai.typed rfl).1) (by decide);have ρ:=ρ.ex l3;have cu:μ aE θ gI 1 (some ⟨θ,0,none⟩) 1 1 [.slice ab ay c1]:=cu
 have bad:∀{w':World},η aE w'->¬By xs->hr w' (⟨δ,0,none⟩:Addr) (bt.v64 [0,0,0,0,0])/\∀ba,ba=w'.setCells (⟨δ,0,none⟩:Addr).block (⟨δ,0,none⟩:Addr).off (bt.v64 [0,0,0,0,0])->
   ∃aK:ag,aK.size=5/\aw ba (⟨δ,0,none⟩:Addr) aK.toList/\χ (λv w'=>v=.tuple #[.agg (bt.v64 (pX xs)).toArray,.bool (mh xs)]/\η w w') (.returned (.tuple #[.agg aK,.bool false])) ba:=by
  intro w' I hm;refine(ρ.ex I).put (by rfl) (LV _) λba ec bS=>?_;refine⟨(bt.v64 [0,0,0,0,0]).toArray,rfl,bS.cells,χ.mk ⟨?_,(ak.trans I).then ec λi o=>by omega⟩⟩;unfold pX mh;rw[aM hm,iy hm];rfl
 refine bz (λh=>?_) λh=>?_
 ·have h:¬nq xs=0:=by simpa using h
  exact bad (η.refl _) λm=>h m.1
 have h:nq xs=0:=by simpa using h
 obtain⟨pU,dW⟩:=OG h;rw[dW]at As;have J4:ay=60:=by have:=yM As;rw[gQ,pU]at this;exact this.symm
 subst J4;have rI:60<=c1:=As.2.1;refine⟨ab,60,c1,cu.at (by rfl),?_⟩;refine bL (bB (by omega)) ?_;rw[Io];have aP:(xs.take 60).length=60:=by rw[gQ,pU];rfl
 have pW:Bytes (xs.take 60):=ψ.take _;refine⟨(xs.take 60).take 4,by rw[gQ,aP];rfl,?_,?_⟩
 ·have:=As.cells.take 4
  unfold bj at this
  rwa[<-vY]at this
 rw[asP,aez (pW.take _) aed];refine bz (λhm=>?_) λhm=>?_
 ·have hm:¬(xs.take 60).take 4=la:=by simpa using hm
  exact bad (η.refl _) λm=>hm m.2
 have hm:(xs.take 60).take 4=la:=by simpa using hm
 have o7:By xs:=⟨h,hm⟩;refine κ.use (Jz cu As.cells aP rI (by omega) pW 4 4 (by omega)) ?_;rintro _ b5 ⟨rfl,cg⟩
 try dsimp only[bH]
 refine κ.use (Jz (cu.ex cg) (As.ex cg).cells aP rI (by omega) pW 8 1 (by omega)) ?_;rintro _ c6 ⟨rfl,eK⟩
 try dsimp only[bH]
 have nC:=cg.trans eK;refine κ.use (Jz (cu.ex nC) (As.ex nC).cells aP rI (by omega) pW 9 1 (by omega)) ?_;rintro _ cn ⟨rfl,c7⟩
 try dsimp only[bH]
 have wq:=nC.trans c7;refine κ.use (Jz (cu.ex wq) (As.ex wq).cells aP rI (by omega) pW 10 1 (by omega)) ?_;rintro _ dX ⟨rfl,j7⟩
 try dsimp only[bH]
 have WR:=wq.trans j7;refine κ.use (Jz (cu.ex WR) (As.ex WR).cells aP rI (by omega) pW 11 2 (by omega)) ?_;rintro _ eR ⟨rfl,jm⟩
 try dsimp only[bH]
 have aht:=WR.trans jm;rintro aF fO rfl rfl;have bo:=μ.new (w:=eR) (bt.v64 [0,0,0,0,0]) nx;have wj:=η.alloc eR (.cells (bt.v64 [0,0,0,0,0]).toArray nx);have gw:eR.alloc (.cells #[.int .i64 0,.int .i64 0,.int .i64 0,.int .i64 0,.int .i64 0] nx)=eR.alloc (.cells (bt.v64 [0,0,0,0,0]).toArray nx):=rfl;rw[gw];have jd:aE.heap.size<=eR.heap.size:=aht.size;generalize eR.heap.size=aF at bo jd⊢;generalize eR.alloc (.cells (bt.v64 [0,0,0,0,0]).toArray nx)=fO at bo wj⊢;refine bo.put (cs:=bt.v64 [c9 xs 4 4,c9 xs 8 1,c9 xs 9 1,c9 xs 10 1,c9 xs 11 2]) (by rfl) (LV _) λfE yH KE=>?_;have awc:η aE fE:=(aht.trans wj).then yH λi o=>by omega
 have ahu:=awc.trans (η.drew fE);have KF:=KE.ex (η.drew fE);have N4:δ<aE.heap.size:=(ρ.ge rfl).2;have ca:aF≠δ:=by omega
 have Jp:pX xs=[c9 xs 4 4,c9 xs 8 1,c9 xs 9 1,c9 xs 10 1,c9 xs 11 2]:=by unfold pX;rw[aS o7]
 have fin:∀(g:Bool),g=mh xs->∀{N:ao},(∀eD,μ eD aF nx 5 (some ⟨aF,0,none⟩) 1 1 (bt.v64 [c9 xs 4 4,c9 xs 8 1,c9 xs 9 1,c9 xs 10 1,c9 xs 11 2])->(∃bW:ag,bW.size=5/\aw eD (⟨δ,0,none⟩:Addr) bW.toList/\χ (λv w'=>v=.tuple #[.agg (bt.v64 (pX xs)).toArray,.bool (mh xs)]/\η w w') (.returned (.tuple #[.agg bW,.bool g])) eD)->N eD)->
   hr fE.drew (⟨δ,0,none⟩:Addr) (bt.v64 [c9 xs 4 4,c9 xs 8 1,c9 xs 9 1,c9 xs 10 1,c9 xs 11 2])/\∀eD,eD=fE.drew.setCells (⟨δ,0,none⟩:Addr).block (⟨δ,0,none⟩:Addr).off (bt.v64 [c9 xs 4 4,c9 xs 8 1,c9 xs 9 1,c9 xs 10 1,c9 xs 11 2])->N eD:=by
  intro g bJ N K;refine(ρ.ex ahu).put (by rfl) (LV _) λeD Od p5=>K eD (KF.aH Od λy ah=>by cases ah;exact ca) ?_;refine⟨(bt.v64 (pX xs)).toArray,by rw[fh];unfold bt.v64;rw[jV];exact Tb xs,by rw[Jp];exact p5.cells,χ.mk ⟨by rw[bJ],(ak.trans ahu).then Od λi o=>by omega⟩⟩
 refine⟨(bt.v64 [c9 xs 4 4,c9 xs 8 1,c9 xs 9 1,c9 xs 10 1,c9 xs 11 2]).toArray,rfl,KF.cells,c9 xs 4 4,KF.at (by rfl),?_⟩;refine bz (λh1=>?_) λh1=>?_
 ·have h1:=b7 h1;refine⟨c9 xs 4 4,KF.at (by rfl),?_⟩;refine bz (λι=>?_) λι=>?_
  ·have ι:=b7 ι;refine⟨c9 xs 10 1,KF.at (by rfl),bL (by rfl) ?_⟩;refine fin (decide (c9 xs 10 1<12)) ?_ ?_
   ·unfold mh;rw[bB o7,bB (show 1<=c9 xs 4 4 from h1),bB ι];rfl
   ·intro eD ε h;exact⟨ε.at (by rfl),h⟩
  ·have ι:=dd ι;refine bL (by rfl) ?_;refine fin false ?_ λeD ε h=>h;unfold mh;rw[iy ι];simp
 ·have h1:=dd h1;refine bL (by rfl) ?_;refine fin false ?_ λeD ε h=>h;unfold mh;rw[iy (show¬1<=c9 xs 4 4 from h1)];simp
def Rv(xs:an):an:=if mh xs then[c9 xs 10 1,c9 xs 4 4,0]else[0,0,11]
theorem ahK(p:J)(n c:Nat)(xs:an)(w:World)(π:a7 w p (bj xs))(ax:xs.length=n)(jS:n<=c)(ψ:Bytes xs):
  Eo.C p n c w (χ λv w'=>v=.tuple (bt.v64 (Rv xs)).toArray/\η w w'):=by
 apply Eo.ok;unfold Eo.main;refine κ.use (Ib p n c xs w π ax jS ψ) ?_;rintro _ γ ⟨rfl,ζ⟩
 try dsimp only[bX,cC,cD,bk,dE,hx,ie]
 rintro θ aa rfl rfl;have ai:=μ.new (w:=γ) (bt.v64 [0,0,0,0,0]) nx;have ad:=η.alloc γ (.cells (bt.v64 [0,0,0,0,0]).toArray nx);have aO:γ.alloc (.cells #[.int .i64 0,.int .i64 0,.int .i64 0,.int .i64 0,.int .i64 0] nx)=γ.alloc (.cells (bt.v64 [0,0,0,0,0]).toArray nx):=rfl;rw[aO];have eu:=ζ.size;generalize γ.heap.size=θ at ai eu⊢;generalize γ.alloc (.cells (bt.v64 [0,0,0,0,0]).toArray nx)=aa at ai ad⊢;have hlen:(bt.v64 (pX xs)).length=5:=by unfold bt.v64;rw[jV];exact Tb xs
 refine bL (bB (by rw[fh];exact hlen)) ?_;refine ai.put (cs:=bt.v64 (pX xs)) hlen (LV _) λaz cz cx=>?_;have aA:η w az:=(ζ.trans ad).then cz λi o=>by omega
 unfold Rv;cases aB:mh xs with
 |false=>
  simp only[uO,yR,r9,vX];exact χ.mk ⟨rfl,aA⟩
 |true=>
  simp only[uO,yR,r9,vX];have o7:By xs:=by unfold mh at aB;simp only[kx,po]at aB;exact aB.1.1.1
  have Jp:pX xs=[c9 xs 4 4,c9 xs 8 1,c9 xs 9 1,c9 xs 10 1,c9 xs 11 2]:=by unfold pX;rw[aS o7]
  rw[Jp]at cx;refine⟨c9 xs 10 1,cx.at (by rfl),c9 xs 4 4,cx.at (by rfl),λk=>?_⟩;exact χ.mk ⟨rfl,aA.trans (η.drewN _ _)⟩
theorem putAt{w:World}{B:Nat}{e:TypeId}{sz b n c:Nat}{xs:aU}(aB:μ w B e sz (some ⟨b,0,none⟩) n c xs)(ε:Nat){ys:aU}(h:ε+ys.length<=n*sz)(h1:∀y∈ys,y.oneCell'=true){N:ao}
  (K:∀τ,Kp w τ (λi=>i=b)->μ τ B e sz (some ⟨b,0,none⟩) n c (xs.take ε++ys++xs.drop (ε+ys.length))->N τ):
  hr w ((⟨b,0,none⟩:Addr).add ε) ys/\∀τ,τ=w.setCells ((⟨b,0,none⟩:Addr).add ε).block ((⟨b,0,none⟩:Addr).add ε).off ys->N τ:=by
 obtain⟨a1,bP,cd⟩:=aB.writes ε ys h h1;refine⟨a1,λτ hw=>?_⟩;have aO:kQ w (some ⟨b,0,none⟩) ε ys=τ:=by
  rw[hw]
  have:(⟨b,0,none⟩:Addr).add ε=⟨b,ε,none⟩:=by rw[Addr.add_lit];simp
  rw[this];simp[kQ]
 rw[aO]at bP cd;exact K τ (cd.mono λi _⟨x,I,o⟩=>by cases I;exact o.symm) bP
theorem avJ(xs:an)(n:Nat):bj (xs.drop n)=(bj xs).drop n:=by simp[bj,xx]
theorem from_{w:World}{p:J}{c:Nat}{xs:an}(h:a7 w p (bj xs))(π:xs.length<=c)(i:Nat):a7 w (du p c i 1) (bj (xs.drop i)):=by
 have:=h.slice c i xs.length (by rw[sn];exact π)
 rw[avJ]
 rwa[hc (by rw[ky,sn];omega)]at this
abbrev ea:=Option (Nat×Nat)
def j1(n:Nat):Nat:=FloatKind.f64.nearest (n:Int)
def Ky:Nat:=13830554455654793216
def ev:ea->Nat
 |none=>Ky
 |some x=>j1 x.1
def eE:ea->Nat
 |none=>0
 |some x=>j1 x.2
def dO(q:ea):Value:=.complex .f64 (ev q) (eE q)
def kc:ea->Prop
 |none=>True
 |some x=>x.1<24/\x.2<16
theorem apY:∀n:_root_.Fin 25,ek .geq (FloatKind.f64.nearest (n.val:Int)) 0=true/\ek .lss (FloatKind.f64.nearest (n.val:Int)) (FloatKind.f64.nearest 24)=decide (n.val<24)/\ek .lss (FloatKind.f64.nearest (n.val:Int)) (FloatKind.f64.nearest 16)=decide (n.val<16)/\
 (FloatKind.f64.decode (FloatKind.f64.nearest (n.val:Int))).toInt .zero=some (n.val:Int)/\ek .eql (FloatKind.f64.nearest (n.val:Int)) Ky=false:=by decide+kernel
theorem apZ:∀a b:_root_.Fin 24,ek .eql (FloatKind.f64.nearest (a.val:Int)) (FloatKind.f64.nearest (b.val:Int))=decide (a.val=b.val):=by decide+kernel
theorem neg_eq:∀a:_root_.Fin 24,ek .eql Ky (FloatKind.f64.nearest (a.val:Int))=false:=by decide+kernel
theorem BY{n:Nat}(h:n<=24):ek .geq (j1 n) 0=true/\ek .lss (j1 n) (FloatKind.f64.nearest 24)=decide (n<24)/\ek .lss (j1 n) (FloatKind.f64.nearest 16)=decide (n<16)/\(FloatKind.f64.decode (j1 n)).toInt .zero=some (n:Int)/\ek .eql (j1 n) Ky=false:=apY ⟨n,by omega⟩
theorem UN{a b:Nat}(aQ:a<24)(ψ:b<24):ek .eql (j1 a) (j1 b)=decide (a=b):=apZ ⟨a,aQ⟩ ⟨b,ψ⟩
theorem acs:j1 0=0:=by decide+kernel
theorem Hp:IntKind.i64.min=-9223372036854775808:=by decide
theorem empty_eq{q:ea}(h:kc q):(!(ek .eql (ev q) 13830554455654793216&&ek .eql (eE q) 0))=q.isSome:=by
 cases q with
 |none=>decide+kernel
 |some x=>
  have:ek .eql (ev (some x)) 13830554455654793216=false:=(BY (n:=x.1) (by have:=h.1;omega)).2.2.2.2
  rw[this];rfl
theorem Vl{q r:ea}(aC:kc q)(υ:kc r):(ek .eql (ev q) (ev r)&&ek .eql (eE q) (eE r))=decide (q=r):=by
 cases q with
 |none=>
  cases r with
  |none=>decide+kernel
  |some y=>
   have:ek .eql (ev none) (ev (some y))=false:=neg_eq ⟨y.1,υ.1⟩
   rw[this];simp
 |some x=>
  cases r with
  |none=>
   have:ek .eql (ev (some x)) (ev none)=false:=(BY (n:=x.1) (by have:=aC.1;omega)).2.2.2.2
   rw[this];simp
  |some y=>
   have aO:ek .eql (ev (some x)) (ev (some y))=decide (x.1=y.1):=UN aC.1 υ.1;have bE:ek .eql (eE (some x)) (eE (some y))=decide (x.2=y.2):=UN (by have:=aC.2;omega) (by have:=υ.2;omega);rw[aO,bE];obtain⟨a,b⟩:=x;obtain⟨c,d⟩:=y;simp only[sa,Fe];by_cases h1:a=c<;>by_cases ι:b=d<;>simp[h1,ι]
theorem adm(l:List ea):∀z∈l.map dO,z.oneCell'=true:=by intro z aL;obtain⟨q,_,rfl⟩:=gO.1 aL;rfl
theorem Ma(n m:Nat)(ax:n<=24)(hm:m=24\/m=16)(w:World):tT.C (j1 n) m w (χ λv w'=>v=.bool (decide (n<m))/\w'=w):=by
 apply tT.ok;unfold tT.main;obtain⟨f1,f2,f3,f4,f5⟩:=BY ax;rw[f1,cond_pos rfl];have f6:ek .lss (j1 n) (FloatKind.f64.nearest (m:Int))=decide (n<m):=by
  rcases hm with rfl|rfl
  ·exact f2
  ·exact f3
 rw[f6];refine bz (λh=>?_) λh=>?_
 ·have bM:=b7 h;rw[h];refine gG f4 (aW (by rw[Hp];omega) (aW (by rw[BP];omega) (χ.mk ⟨?_,rfl⟩)))
  have:=UN (a:=n) (b:=n) (by rcases hm with rfl|rfl<;>omega) (by rcases hm with rfl|rfl<;>omega)
  rw[bB rfl]at this;exact gP Value.bool this
 ·rw[h];exact χ.mk ⟨rfl,rfl⟩
theorem av0(m:Int)(w:World):tT.C Ky m w (χ λv w'=>v=.bool false/\w'=w):=by apply tT.ok;unfold tT.main;rw[cond_neg (by decide+kernel)];exact χ.mk ⟨rfl,rfl⟩
theorem zu(q:ea)(h:kc q)(w:World):x6.C (ev q) (eE q) w (χ λv w'=>v=.bool q.isSome/\w'=w):=by
 apply x6.ok;unfold x6.main;cases q with
 |none=>
  refine κ.use (av0 24 w) ?_;rintro _ _ ⟨rfl,rfl⟩
  try dsimp only[dE,iY]
  exact χ.mk ⟨rfl,rfl⟩
 |some x=>
  refine κ.use (Ma x.1 24 (by have:=h.1;omega) (.inl rfl) w) ?_;rintro _ _ ⟨rfl,rfl⟩
  try dsimp only[dE]
  rw[bB h.1,cond_pos rfl];refine κ.use (Ma x.2 16 (by have:=h.2;omega) (.inr rfl) _) ?_;rintro _ _ ⟨rfl,rfl⟩
  try dsimp only[dE]
  rw[bB h.2];exact χ.mk ⟨rfl,rfl⟩
def prt:ea->an
 |none=>[0,0,2]
 |some x=>[x.1,x.2,0]
theorem aix(q:ea)(h:kc q)(w:World):CV.C (ev q) (eE q) w (χ λv w'=>v=.tuple (bt.v64 (prt q)).toArray/\w'=w):=by
 apply CV.ok;unfold CV.main;refine κ.use (zu q h w) ?_;rintro _ _ ⟨rfl,rfl⟩
 try dsimp only[dE]
 cases q with
 |none=>
  rw[cond_pos (by rfl)];exact χ.mk ⟨rfl,rfl⟩
 |some x=>
  have h1:=h.1;have ι:=h.2;rw[cond_neg (by rfl)];refine gG (BY (n:=x.1) (by omega)).2.2.2.1 (aW (by rw[Hp];omega) (aW (by rw[BP];omega) ?_));refine gG (BY (n:=x.2) (by omega)).2.2.2.1 (aW (by rw[Hp];omega) (aW (by rw[BP];omega) (χ.mk ⟨rfl,rfl⟩)))
theorem L9(k:Int)(w:World):x7.C k w (χ λv w'=>v=.bool (decide (1<=k)&&decide (k<=16))/\w'=w):=by
 apply x7.ok;unfold x7.main;refine bz (λh=>?_) λh=>?_
 ·have h:1<=k:=b7 h;exact χ.mk ⟨by rw[bB h];rfl,rfl⟩
 ·have h:¬1<=k:=dd h;exact χ.mk ⟨by rw[iy h];rfl,rfl⟩
def vu(k:Int):ea->an
 |none=>[0,2]
 |some x=>if(x.2:Int)<k then[x.1*k+x.2,0]else[0,5]
theorem Jw(k:Int)(x:Nat×Nat):vu k (some x)=if(x.2:Int)<k then[x.1*k+x.2,0]else[0,5]:=rfl
theorem Jv{a:Nat}{k:Int}(aQ:a<24)(hk:1<=k/\k<=16):0<=(a:Int)*k/\(a:Int)*k<=368:=by have h1:(a:Int)*k<=23*16:=sd (by omega) hk.2 (by omega) (by omega);have ι:=yU (a:=(a:Int)) (b:=k) (by omega) (by omega);omega
theorem QH(q:ea)(h:kc q)(k:Int)(hk:1<=k/\k<=16)(w:World):CT.C (ev q) (eE q) k w (χ λv w'=>v=.tuple (bt.v64 (vu k q)).toArray/\w'=w):=by
 apply CT.ok;unfold CT.main;refine κ.use (aix q h w) ?_;rintro _ _ ⟨rfl,rfl⟩;cases q with
 |none=>
  have e:(bt.v64 (prt none)).toArray=#[.int .i64 0,.int .i64 0,.int .i64 2]:=rfl;rw[e]
  try dsimp only[bX,cC,cD,mK,bk,bH]
  refine κ.use (L9 k _) ?_;rintro _ _ ⟨rfl,rfl⟩;rw[bB hk.1,bB hk.2]
  try dsimp only[dE]
  rw[cond_neg (by rfl),cond_pos (by decide)];exact χ.mk ⟨rfl,rfl⟩
 |some x=>
  have e:(bt.v64 (prt (some x))).toArray=#[.int .i64 x.1,.int .i64 x.2,.int .i64 0]:=rfl;rw[e]
  try dsimp only[bX,cC,cD,mK,bk,bH]
  refine κ.use (L9 k _) ?_;rintro _ _ ⟨rfl,rfl⟩;rw[bB hk.1,bB hk.2]
  try dsimp only[dE]
  have hm:=Jv h.1 hk;have ι:=h.2;rw[cond_neg (by rfl),cond_neg (by decide)];refine bz (λh=>?_) λh=>?_
  ·have h:¬(x.2:Int)<k:=by have:=b7 h;omega
   refine χ.mk ⟨?_,rfl⟩;rw[Jw,aM h];rfl
  ·have h:(x.2:Int)<k:=by have:=dd h;omega
   rw[bY (x:=(x.1:Int)*k) (by omega) (by omega),bY (by omega) (by omega)];refine χ.mk ⟨?_,rfl⟩;rw[Jw,aS h];rfl
def may(s k:Int):Bool:=decide (6<=s)&&decide (s<=24)&&decide (2<=k)&&decide (k<=16)
theorem uE{s k:Int}:may s k=true↔6<=s/\s<=24/\2<=k/\k<=16:=by simp[may,and_assoc]
theorem Ol{s k:Int}(h:¬(6<=s/\s<=24/\2<=k/\k<=16)):may s k=false:=by
 cases hm:may s k with
 |false=>rfl
 |true=>exact(h (uE.1 hm)).elim
theorem KS{s k:Int}(h:6<=s/\s<=24/\2<=k/\k<=16):0<=s*k/\s*k<=384:=by have h1:s*k<=24*16:=sd h.2.1 h.2.2.2 (by omega) (by omega);have ι:=yU (a:=s) (b:=k) (by omega) (by omega);omega
def two(s k:Int):aU:=[.int .i64 s,.int .i64 k]
theorem IT(s k:Int)(w:World):yO.C s k w (χ λv w'=>v=.int .i64 (if may s k then 0 else 1)/\η w w'):=by
 apply yO.ok;unfold yO.main;rintro b γ rfl rfl;have ε:=μ.new (w:=w) (two s k) b2;have I:=η.alloc w (.cells (two s k).toArray b2);have aO:w.alloc (.cells #[.int .i64 s,.int .i64 k] b2)=w.alloc (.cells (two s k).toArray b2):=rfl;rw[aO];generalize w.alloc (.cells (two s k).toArray b2)=γ at ε I⊢;refine⟨s,ε.at (by rfl),bz (λh=>?_) λh=>?_⟩
 ·have:=b7 h
  rw[Ol (by omega)];exact χ.mk ⟨rfl,I⟩
 have h1:=dd h;refine⟨s,ε.at (by rfl),bz (λh=>?_) λh=>?_⟩
 ·have:=b7 h
  rw[Ol (by omega)];exact χ.mk ⟨rfl,I⟩
 have ι:=dd h;refine⟨k,ε.at (by rfl),bz (λh=>?_) λh=>?_⟩
 ·have:=b7 h
  rw[Ol (by omega)];exact χ.mk ⟨rfl,I⟩
 have aG:=dd h;refine⟨k,ε.at (by rfl),bz (λh=>?_) λh=>?_⟩
 ·have:=b7 h
  rw[Ol (by omega)];exact χ.mk ⟨rfl,I⟩
 have cq:=dd h;rw[uE.2 (by omega)];exact χ.mk ⟨rfl,I⟩
theorem Qx(s k:Int)(dS:6<=s/\s<=24/\2<=k/\k<=16)(w:World):EV.C s k w (χ λv w'=>v=.tuple #[.int .i64 ((s-4)*k),.int .i64 0]/\η w w'):=by
 apply EV.ok;unfold EV.main;rintro b γ rfl rfl;have ε:=μ.new (w:=w) (two s k) b2;have I:=η.alloc w (.cells (two s k).toArray b2);have aO:w.alloc (.cells #[.int .i64 s,.int .i64 k] b2)=w.alloc (.cells (two s k).toArray b2):=rfl;rw[aO];generalize w.alloc (.cells (two s k).toArray b2)=γ at ε I⊢;refine⟨(two s k).toArray,rfl,ε.cells,?_⟩;refine κ.use (IT s k _) ?_;rintro _ τ ⟨rfl,ι⟩
 try dsimp only[bH]
 rw[uE.2 dS,cond_neg (by decide)];refine⟨s,(ε.ex ι).at (by rfl),k,(ε.ex ι).at (by rfl),χ.mk ⟨?_,I.trans ι⟩⟩;have hp:=KS dS;have e:(s-4)*k=s*k-4*k:=Int.sub_mul _ _ _;rw[bY (x:=s-2) (by omega) (by omega),bY (x:=s-2-2) (by omega) (by omega),show s-2-2=s-4 by omega,bY (by omega) (by omega)]
def Hq(s k:Int):ea->Bool
 |none=>false
 |some x=>decide ((x.2:Int)<k)&&decide ((x.1:Int)*k+x.2<s*k)
theorem Ko(s k:Int)(x:Nat×Nat):Hq s k (some x)=(decide ((x.2:Int)<k)&&decide ((x.1:Int)*k+x.2<s*k)):=rfl
theorem ahA(s k:Int)(dS:6<=s/\s<=24/\2<=k/\k<=16)(q:ea)(h:kc q)(w:World):
  yN.C s k (ev q) (eE q) w (χ λv w'=>(∃x e,v=.tuple #[.int .i64 x,.int .i64 e]/\(e !=0)=!(Hq s k q))/\η w w'):=by
 apply yN.ok;unfold yN.main;rintro δ γ rfl rfl;have ε:=μ.new (w:=w) (two s k) b2;have I:=η.alloc w (.cells (two s k).toArray b2);have aO:w.alloc (.cells #[.int .i64 s,.int .i64 k] b2)=w.alloc (.cells (two s k).toArray b2):=rfl;rw[aO];generalize w.alloc (.cells (two s k).toArray b2)=γ at ε I⊢;refine⟨(two s k).toArray,rfl,ε.cells,?_⟩;refine κ.use (IT s k _) ?_;rintro _ τ ⟨rfl,ι⟩;rw[uE.2 dS]
 try dsimp only[bH]
 rw[cond_neg (by decide)];refine⟨k,(ε.ex ι).at (by rfl),?_⟩;refine κ.use (QH q h k (by omega) τ) ?_;rintro _ _ ⟨rfl,rfl⟩;cases q with
 |none=>
  have e:(bt.v64 (vu k none)).toArray=#[.int .i64 0,.int .i64 2]:=rfl;rw[e]
  try dsimp only[bX,cC,cD,bk,bH]
  rw[cond_pos (by decide)];exact χ.mk ⟨⟨_,_,rfl,rfl⟩,I.trans ι⟩
 |some x=>
  rw[Jw,Ko];split
  ·rename_i bM;have e:(bt.v64 [(x.1:Int)*k+x.2,0]).toArray=#[.int .i64 ((x.1:Int)*k+x.2),.int .i64 0]:=rfl;rw[e]
   try dsimp only[bX,cC,cD,bk,bH]
   rw[cond_neg (by decide)];have hp:=KS dS;have hm:=Jv (k:=k) h.1 (by omega);refine⟨s,(ε.ex ι).at (by rfl),k,(ε.ex ι).at (by rfl),?_⟩;rw[bY (x:=s*k) (by omega) (by omega)];refine bz (λπ=>?_) λπ=>?_
   ·have π:=b7 π;exact χ.mk ⟨⟨_,_,rfl,by rw[iy (by omega:¬(x.1:Int)*k+x.2<s*k)];simp⟩,I.trans ι⟩
   ·have π:=dd π;exact χ.mk ⟨⟨_,_,rfl,by rw[bB bM,bB (by omega:(x.1:Int)*k+x.2<s*k)];simp⟩,I.trans ι⟩
  ·rename_i bM;have e:(bt.v64 [(0:Int),5]).toArray=#[.int .i64 0,.int .i64 5]:=rfl;rw[e]
   try dsimp only[bX,cC,cD,bk,bH]
   rw[cond_pos (by decide)];exact χ.mk ⟨⟨_,_,rfl,by rw[iy bM];simp⟩,I.trans ι⟩
theorem EU{w:World}{p:J}{l:List ea}(π:a7 w p (l.map dO)){j:Nat}(φ:j<l.length):∃a,p=some a/\w.cell? (a.add j)=some (.complex .f64 (ev l[j]) (eE l[j])):=
 π.many (by rw[List.getElem?_map,List.getElem?_eq_getElem φ];rfl)
theorem X6{α:Type}(f:α->Bool)(l:List α){j:Nat}(φ:j<l.length)(h:(l.take j).any f=false):(l.take (j+1)).any f=f l[j]:=by rw[k6 φ,List.any_append,h];simp
theorem any_true{α:Type}(f:α->Bool)(l:List α){j:Nat}(φ:j<l.length)(h:f l[j]=true):l.any f=true:=OU.2 ⟨_,hF φ,h⟩
theorem aah(p:J)(n c:Nat)(l:List ea)(w:World)(π:a7 w p (l.map dO))(ax:l.length=n)(aj:n<=1000000)(aB:∀q∈l,kc q):
  uU.C p n c (.func (.func 114) #[] #[]) w (χ λv w'=>v=.bool false/\w'=w):=by
 apply uU.ok;unfold uU.main;have h:ts.C p n c w (χ λv w'=>v=.int .i64 (-1)/\w'=w):=by
  apply ts.ok;unfold ts.main ts.bd;refine⟨λcb b8 ck t7 t8 w'=>p=cb/\n=b8/\c=ck/\(n:Int)=t7/\0<=t8/\t8<=n/\w=w',λ_ _ _ _ t8 _=>(n-t8).toNat,⟨rfl,rfl,rfl,rfl,by omega,by omega,rfl⟩,?_⟩;rintro _ _ _ _ t8 _ ⟨rfl,rfl,rfl,rfl,aD,h1,rfl⟩;unfold ts.δ;refine bz (λh=>?_) λh=>χ.mk ⟨rfl,rfl⟩;have bM:=b7 h;obtain⟨j,rfl⟩:=eH aD;have φ:j<l.length:=by omega
  obtain⟨a,rfl,r⟩:=EU π φ;refine bL (bB aD) (bL (bB bM) ?_)
  try dsimp only[bk]
  rw[cy,ey];refine⟨_,_,r,?_⟩;have bg:Dx.C (ev l[j]) (eE l[j]) w (χ λv w'=>v=.bool false/\w'=w):=by
   apply Dx.ok;unfold Dx.main;have hk:=aB _ (hF φ);rw[empty_eq hk];cases aC:l[j]with
   |none=>
    rw[cond_neg (by rfl)];exact χ.mk ⟨rfl,rfl⟩
   |some x=>
    rw[aC]at hk;rw[cond_pos (by rfl)];refine κ.use (zu (some x) hk w) ?_;rintro _ _ ⟨rfl,rfl⟩
    try dsimp only[dE]
    exact χ.mk ⟨rfl,rfl⟩
  refine κ.use bg ?_;rintro _ _ ⟨rfl,rfl⟩
  try dsimp only[dE,iY]
  rw[bY (by omega) (by omega)];exact⟨⟨rfl,rfl,rfl,rfl,by omega,by omega,rfl⟩,by((try dsimp only);omega)⟩
 refine κ.use h ?_;rintro _ _ ⟨rfl,rfl⟩
 try dsimp only[bH]
 exact χ.mk ⟨rfl,rfl⟩
def s8(s k:Int)(q:ea):Bool:=q.isSome&&!(Hq s k q)
theorem amy(p:J)(n c:Nat)(l:List ea)(w:World)(π:a7 w p (l.map dO))(ax:l.length=n)(aj:n<=1000000)(aB:∀q∈l,kc q)(s k:Int)(dS:6<=s/\s<=24/\2<=k/\k<=16){B dP:Nat}(ε:μ w B b2 2 (some ⟨dP,0,none⟩) 1 1 (two s k)):
  uU.C p n c (.func (.func 125) #[] #[.pointer (some ⟨dP,0,none⟩)]) w (χ λv w'=>v=.bool (l.any (s8 s k))/\η w w'):=by
 apply uU.ok;unfold uU.main;have h:tt.C p n c dP w (χ λv w'=>(∃x,v=.int .i64 x/\decide (x>=0)=l.any (s8 s k))/\η w w'):=by
  apply tt.ok;unfold tt.main tt.bd;refine⟨λcb b8 ck t1 t7 t8 w'=>p=cb/\n=b8/\c=ck/\dP=t1/\(n:Int)=t7/\0<=t8/\t8<=n/\(l.take t8.toNat).any (s8 s k)=false/\η w w',λ_ _ _ _ _ t8 _=>(n-t8).toNat,⟨rfl,rfl,rfl,rfl,rfl,by omega,by omega,rfl,η.refl w⟩,?_⟩;rintro _ _ _ _ _ t8 w' ⟨rfl,rfl,rfl,rfl,rfl,aD,h1,hp,I⟩;unfold tt.δ;obtain⟨j,rfl⟩:=eH aD;rw[cy]at hp;refine bz (λh=>?_) λh=>?_
  ·have bM:=b7 h;have φ:j<l.length:=by omega
   obtain⟨a,rfl,r⟩:=EU (π.ex I) φ;refine bL (bB aD) (bL (bB bM) ?_)
   try dsimp only[bk]
   rw[cy,ey];refine⟨_,_,r,?_⟩;have bg:ES.C (ev l[j]) (eE l[j]) dP w' (χ λv τ=>v=.bool (s8 s k l[j])/\η w' τ):=by
    apply ES.ok;unfold ES.main;have hk:=aB _ (hF φ);refine⟨(two s k).toArray,rfl,(ε.ex I).cells,?_⟩;refine κ.use (ahA s k dS l[j] hk w') ?_;rintro _ τ ⟨⟨x,e,rfl,he⟩,σ⟩
    try dsimp only[bX,cC,cD,bk,bH]
    rw[empty_eq hk];unfold s8;cases aC:l[j]with
    |none=>
     rw[cond_neg (by rfl)];exact χ.mk ⟨rfl,σ⟩
    |some y=>
     rw[aC]at he;rw[cond_pos (by rfl),he];exact χ.mk ⟨rfl,σ⟩
   refine κ.use bg ?_;rintro _ τ ⟨rfl,σ⟩
   try dsimp only[dE]
   refine bz (λh=>?_) λh=>?_
   ·exact χ.mk ⟨⟨_,rfl,by rw[any_true _ l φ h];exact bB aD⟩,I.trans σ⟩
   ·rw[bY (by omega) (by omega)];refine⟨⟨rfl,rfl,rfl,rfl,rfl,by omega,by omega,?_,I.trans σ⟩,by((try dsimp only);omega)⟩
    have:((j:Int)+1).toNat=j+1:=by omega
    rw[this,X6 _ l φ hp];exact h
  ·have h:=dd h
   have:j=l.length:=by omega
   subst this;rw[AB]at hp;exact χ.mk ⟨⟨_,rfl,by rw[hp];rfl⟩,I⟩
 refine κ.use h ?_;rintro _ γ ⟨⟨x,rfl,I⟩,ζ⟩
 try dsimp only[bH]
 rw[I];exact χ.mk ⟨rfl,ζ⟩
end Go.Proofs.YtcpdfhkhaekekaaGreat.G
