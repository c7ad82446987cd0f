/- Chapter 22: steps sorted. -/
import Derived.Test.YtkpdgafinpedgaaGreatUe
import Derived.Test.YtkpdgafinpedgaaGreatUc
section
set_option linter.unusedVariables false
set_option linter.unusedSimpArgs false
namespace Go.D.StT
open Go.D.Srt
theorem ordE_lt (x y:Edg):ordE x y<0↔x.f<y.f\/(x.f=y.f/\(x.t<y.t\/(x.t=y.t/\x.a<y.a))):=by
 have h1:∀ c1 c2 c3:Int,orL [c1,c2,c3]<0↔c1<0\/(c1=0/\(c2<0\/(c2=0/\c3<0))):=fun c1 c2 c3=>by
  simp only [orL]
  repeat' split
  all_goals omega
 have h2:∀ u v:Int,cmpI u v<0↔u<v:=fun u v=>by unfold cmpI; split <;> (try split) <;> omega
 have h3:∀ u v:Int,cmpI u v=0↔u=v:=fun u v=>by unfold cmpI; split <;> (try split) <;> omega
 unfold ordE
 rw [h1,h2,h2,h2,h3,h3]
theorem ltc_iff (x y:Edg):ltc ordE x y=true↔ordE x y<0:=by unfold ltc; rw [decide_eq_true_iff]
theorem Vj (x y:Edg):ltc ordE x y=false↔¬ ordE x y<0:=by rw [<-ltc_iff]; cases ltc ordE x y <;> simp
theorem ordO:Ord (ltc ordE) where
 asym x y h:=by
  rw [ltc_iff,ordE_lt] at h
  rw [Vj,ordE_lt]
  omega
 trans x y z h1 h2:=by
  rw [Vj,ordE_lt] at *
  omega
theorem ord_anti {x y:Edg} (h1:¬ ordE x y<0) (h2:¬ ordE y x<0):x=y:=by
 obtain ⟨a,b,c⟩:=x
 obtain ⟨a',b',c'⟩:=y
 rw [ordE_lt] at *
 simp only at *
 have e1:a=a':=by omega
 have e2:b=b':=by omega
 have e3:c=c':=by omega
 rw [e1,e2,e3]
theorem ord_irr (x:Edg):¬ ordE x x<0:=by rw [ordE_lt]; omega
theorem cels_eq (A:List Edg):cels A=(Zd A).map DV.p:=by
 induction A with
 | nil=>rfl
 | cons a A ih=>
  have e1:cels (a::A)=cel a++cels A:=rfl
  have e2:Zd (a::A)=eEdg a++Zd A:=rfl
  rw [e1,e2,List.map_append,ih]; rfl
theorem Zi {A:List Edg} {k:Nat} (hk:k<A.length):ge A k=A[k]:=by unfold ge; rw [List.getD_eq_getElem?_getD,List.getElem?_eq_getElem hk]; rfl
theorem sd_pair {B:List Edg} (h:Sd (ltc ordE) 0 B.length B):B.Pairwise fun x y=>¬ ordE y x<0:=by
 rw [List.pairwise_iff_getElem]
 intro i j hi hj hij
 have h1:=h i j (Nat.zero_le _) hij hj
 rw [Vj,Zi hi,Zi hj] at h1
 exact h1
theorem eqE' (a b c a' b' c':Int):binOp PP .eql 69 (.agg (edgD ⟨a,b,c⟩)) (.agg (edgD ⟨a',b',c'⟩))=((match some (a==a') with | some true=>(match some (b==b') with | some true=>(match some (c==c') with | some true=>some true | r=>r) | r=>r) | r=>r):Option Bool).map fun b=>.p (.bool b):=by kernel_rfl
theorem eqE_ne {x y:Edg} (h:x≠y):binOp PP .eql 69 (.agg (edgD x)) (.agg (edgD y))=some (.p (.bool false)):=by
 obtain ⟨a,b,c⟩:=x
 obtain ⟨a',b',c'⟩:=y
 rw [eqE']
 by_cases h1:a=a'
 ·by_cases h2:b=b'
  ·by_cases h3:c=c'
   ·subst h1; subst h2; subst h3; exact absurd rfl h
   ·simp [h1,h2,h3]
  ·simp [h1,h2]
 ·simp [h1]
theorem idx23r {r n i:Nat} (h:i<n):indexAddr PP 23 (.rsl r 3 0 n) (.p (.int .i64 (i:Nat)))=some (.ptr r (i*3)):=idxL h
theorem len23r (r n:Nat) (σ:Qa):len PP 23 (.rsl r 3 0 n) σ=some (.p (.int .i64 (n:Nat))):=by simp [len,u23]
theorem len23_nil (σ:Qa):len PP 23 (.p .nilsl) σ=some (.p (.int .i64 0)):=by simp [len,u23]
theorem eqE_d (x y:Edg):binOp PP .eql 69 (.agg (edgD x)) (.agg (edgD y))=some (.p (.bool (decide (x=y)))):=by
 by_cases h:x=y
 ·subst h
  obtain ⟨a,b,c⟩:=x
  rw [eqE',decide_eq_true rfl]
  simp
 ·rw [eqE_ne h,decide_eq_false h]
theorem neE' (a b c a' b' c':Int):binOp PP .neq 69 (.agg (edgD ⟨a,b,c⟩)) (.agg (edgD ⟨a',b',c'⟩))=((match some (a==a') with | some true=>(match some (b==b') with | some true=>(match some (c==c') with | some true=>some true | r=>r) | r=>r) | r=>r):Option Bool).map fun b=>.p (.bool (!b)):=by kernel_rfl
theorem neE_d (x y:Edg):binOp PP .neq 69 (.agg (edgD x)) (.agg (edgD y))=some (.p (.bool (!decide (x=y)))):=by
 obtain ⟨a,b,c⟩:=x
 obtain ⟨a',b',c'⟩:=y
 rw [neE']
 by_cases h1:a=a'
 ·by_cases h2:b=b'
  ·by_cases h3:c=c'
   ·subst h1; subst h2; subst h3; simp
   ·simp [h1,h2,h3]
  ·simp [h1,h2]
 ·simp [h1]
def ddT (A:List Edg):Nat->List Edg
 | 0=>[]
 | i+1=>if i=0\/ge A i≠ge A (i-1) then ddT A i++[ge A i] else ddT A i
theorem dd_new {A:List Edg} {i:Nat} (h:i=0\/ge A i≠ge A (i-1)):ddT A (i+1)=ddT A i++[ge A i]:=by
 have e:ddT A (i+1)=if i=0\/ge A i≠ge A (i-1) then ddT A i++[ge A i] else ddT A i:=rfl
 rw [e,if_pos h]
theorem dd_old {A:List Edg} {i:Nat} (h0:i≠0) (h:ge A i=ge A (i-1)):ddT A (i+1)=ddT A i:=by
 have e:ddT A (i+1)=if i=0\/ge A i≠ge A (i-1) then ddT A i++[ge A i] else ddT A i:=rfl
 rw [e,if_neg (by rintro (h1 | h1); exact h0 h1; exact h1 h)]
theorem dd_len (A:List Edg):∀ i,(ddT A i).length<=i
 | 0=>Nat.le_refl 0
 | i+1=>by
  have ih:=dd_len A i
  by_cases h:i=0\/ge A i≠ge A (i-1)
  ·rw [dd_new h,List.length_append]; simp; omega
  ·rw [dd_old (fun e=>h (.inl e)) (by by_cases e:ge A i=ge A (i-1); exact e; exact absurd (.inr e) h)]; omega
theorem dd_mem (A:List Edg) (e:Edg):∀ i,e∈ddT A i↔∃ j,j<i/\e=ge A j
 | 0=>⟨fun h=>absurd h (by simp [ddT]),fun ⟨j,h,_⟩=>by omega⟩
 | i+1=>by
  have ih:=dd_mem A e i
  by_cases h:i=0\/ge A i≠ge A (i-1)
  ·rw [dd_new h,List.mem_append,ih,List.mem_singleton]
   constructor
   ·rintro (⟨j,h1,h2⟩ | h1)
    ·exact ⟨j,by omega,h2⟩
    ·exact ⟨i,by omega,h1⟩
   ·rintro ⟨j,h1,h2⟩
    by_cases e1:j=i
    ·subst e1; exact .inr h2
    ·exact .inl ⟨j,by omega,h2⟩
  ·have h1:i≠0:=fun e=>h (.inl e)
   have h2:ge A i=ge A (i-1):=by by_cases e:ge A i=ge A (i-1); exact e; exact absurd (.inr e) h
   rw [dd_old h1 h2,ih]
   constructor
   ·rintro ⟨j,h3,h4⟩; exact ⟨j,by omega,h4⟩
   ·rintro ⟨j,h3,h4⟩
    by_cases e1:j=i
    ·subst e1; exact ⟨j-1,by omega,by rw [h4,h2]⟩
    ·exact ⟨j,by omega,h4⟩
theorem dd_asc {A:List Edg} (hA:A.Pairwise fun x y=>¬ ordE y x<0):∀ i,i<=A.length->(ddT A i).Pairwise (fun x y=>ordE x y<0)/\∀ x∈ddT A i,∀ j,j+1=i->¬ ordE (ge A j) x<0
 | 0,h=>⟨List.Pairwise.nil,fun x hx=>absurd hx (by simp [ddT])⟩
 | i+1,h=>by
  obtain ⟨ih1,ih2⟩:=dd_asc hA i (by omega)
  by_cases hn:i=0\/ge A i≠ge A (i-1)
  ·rw [dd_new hn]
   have hlt:∀ x∈ddT A i,ordE x (ge A i)<0:=fun x hx=>by
    have hl:=dd_len A i
    have hi:i≠0:=fun e=>by subst e; exact absurd hx (by simp [ddT])
    have h1:=ih2 x hx (i-1) (by omega)
    have h2:=List.pairwise_iff_getElem.1 hA (i-1) i (by omega) (by omega) (by omega)
    rw [<-Zi (by omega),<-Zi (by omega)] at h2
    have h3:ge A i≠ge A (i-1):=by rcases hn with h4 | h4; exact absurd h4 hi; exact h4
    have h4:ordE (ge A (i-1)) (ge A i)<0:=by
     by_cases h5:ordE (ge A (i-1)) (ge A i)<0
     ·exact h5
     ·exact absurd (ord_anti h2 h5) h3
    rw [ordE_lt] at *
    omega
   refine ⟨?_,fun x hx j hj=>?_⟩
   ·rw [List.pairwise_append]
    exact ⟨ih1,by simp,fun x hx y hy=>by rw [List.mem_singleton.1 hy]; exact hlt x hx⟩
   ·have e:j=i:=by omega
    subst e
    rcases List.mem_append.1 hx with h1 | h1
    ·have:=hlt x h1
     rw [ordE_lt] at *
     omega
    ·rw [List.mem_singleton.1 h1]; exact ord_irr _
  ·have h1:i≠0:=fun e=>hn (.inl e)
   have h2:ge A i=ge A (i-1):=by by_cases e:ge A i=ge A (i-1); exact e; exact absurd (.inr e) hn
   rw [dd_old h1 h2]
   refine ⟨ih1,fun x hx j hj=>?_⟩
   have e:j=i:=by omega
   subst e
   rw [h2]
   exact ih2 x hx (j-1) (by omega)
theorem dups_len {α:Type} (z:List α):∀ n,(dups z n).length=n*z.length
 | 0=>by simp [dups]
 | n+1=>by rw [dups,List.length_append,dups_len z n,Nat.succ_mul]; omega
theorem dups_one {z:List DV} (h:z.all DV.one=true):∀ n,(dups z n).all DV.one=true
 | 0=>rfl
 | n+1=>by rw [dups,List.all_append,h,dups_one h n]; rfl
theorem cels_take (A:List Edg):∀ k,(cels A).take (k*3)=cels (A.take k):=by
 induction A with
 | nil=>intro k; simp [cels]
 | cons a A ih=>
  intro k
  cases k with
  | zero=>simp [cels]
  | succ k=>
   have e:cels (a::A)=cel a++cels A:=rfl
   have e2:cels (a::A.take k)=cel a++cels (A.take k):=rfl
   rw [e,List.take_succ_cons,e2,<-ih k,List.take_append,ZH,List.take_of_length_le (by rw [ZH]; omega),show (k+1)*3-3=k*3 by omega]
theorem idx23o {r k0 m j:Nat} (h:j<m):indexAddr PP 23 (.rsl r 3 (k0*3) m) (.p (.int .i64 (j:Nat)))=some (.ptr r ((k0+j)*3)):=by
 have h2:(0:Int)<=(j:Int)/\(j:Int)<(m:Nat):=by omega
 simp [indexAddr,u23,sE,h2]
 omega
theorem len23o (r off n:Nat) (σ:Qa):len PP 23 (.rsl r 3 off n) σ=some (.p (.int .i64 (n:Nat))):=by simp [len,u23]
theorem sl23a {r n k:Nat} (h:k<=n):Zy PP 23 (.rsl r 3 0 n) (some (.p (.int .i64 (k:Nat)))) none none=some (.rsl r 3 (k*3) (n-k)):=by
 have h2:(0:Int)<=(k:Int)/\(k:Int)<=(n:Nat):=by omega
 simp [Zy,u23,sE,Wj,h]
theorem sl23b {r n k:Nat} (h:k<=n):Zy PP 23 (.rsl r 3 0 n) none (some (.p (.int .i64 (k:Nat)))) none=some (.rsl r 3 0 k):=by
 have h2:(0:Int)<=(k:Int)/\(k:Int)<=(n:Nat):=by omega
 simp [Zy,u23,sE,Wj,h]
theorem zero69c:Qx PP 69=some [.p (pI 0),.p (pI 0),.p (pI 0)]:=Eq.trans (by kernel_rfl) rfl
theorem clr23 {σ:Qa} {r k m:Nat} {A:List Edg} (h:σ[r]?=some (.mix (cels A))) (hk:k+m=A.length) (hm:m≠0):∃ rest,VJ PP 0 23 (.rsl r 3 (k*3) m) σ=some (σ.set r (.mix (cels (A.take k)++rest))):=by
 have e1:(dups [DV.p (pI 0),.p (pI 0),.p (pI 0)] m).length=m*3:=dups_len _ _
 have e2:(dups [DV.p (pI 0),.p (pI 0),.p (pI 0)] m).all DV.one=true:=dups_one rfl _
 have e3:k*3+m*3<=(cels A).length:=by rw [WP]; omega
 refine ⟨dups [DV.p (pI 0),.p (pI 0),.p (pI 0)] m++(cels A).drop (k*3+m*3),?_⟩
 simp only [VJ,u23,sE,zero69c,if_neg hm,List.length_cons,List.length_nil,and_self,if_true,Zo,Nat.zero_le,h,e1,e2,e3,decide_true,Bool.and_self]
 rw [QS,e1,cels_take,List.append_assoc]
section
variable {σ : Qa} {r : Nat} {A : List Edg} (hr : r < σ.length) (hn : A.length <= 100000)
include hr hn
theorem cp_L1 {k0:Nat}:∀ (d k2 k:Nat) (A':List Edg),A.length-(k0+k2)=d->1<=k2->k0+k2<=A.length->A'.length=A.length->A'.take k=ddT A (k0+k2)->k=(ddT A (k0+k2)).length->k<k0+k2->(∀ j,k0+k2-1<=j->j<A.length->ge A' j=ge A j)->
  ∃ rest,f125_L1 Qb 0 (.rsl r 3 0 A.length) (N k) (.rsl r 3 (k0*3) (A.length-k0)) (N k2) (W σ r A')=some (.rsl r 3 0 (ddT A A.length).length,σ.set r (.mix (cels (ddT A A.length)++rest)))
 | 0,k2,k,A',hd,h1,h2,hl,ht,hk,hlt,hs=>by
  have e:k0+k2=A.length:=by omega
  obtain ⟨rest,hc⟩:=clr23 (Jk hr A') (k:=k) (m:=A.length-k) (by omega) (by omega)
  rw [ht,e,W,List.set_set] at hc
  rw [e] at hk
  refine ⟨rest,?_⟩
  rw [f125_L1_eq Qb rfl]
  simp (disch:=omega) only [N,len23o,Qn,ltF,gG,sl23a,sl23b,W,hc,<-hk]
 | d+1,k2,k,A',hd,h1,h2,hl,ht,hk,hlt,hs=>by
  have l1:=ldW (σ:=σ) (r:=r) (i:=k0+k2) (A:=A') hr (by omega)
  have l2:=ldW (σ:=σ) (r:=r) (i:=k0+(k2-1)) (A:=A') hr (by omega)
  rw [hs (k0+k2) (by omega) (by omega)] at l1
  rw [hs (k0+(k2-1)) (by omega) (by omega)] at l2
  have e3:k0+(k2-1)=k0+k2-1:=by omega
  by_cases hne:ge A (k0+k2)=ge A (k0+k2-1)
  ·have hdd:=dd_old (A:=A) (i:=k0+k2) (by omega) hne
   obtain ⟨rest,ih⟩:=cp_L1 (k0:=k0) d (k2+1) k A' (by omega) (by omega) (by omega) hl (by rw [<-Nat.add_assoc,hdd]; exact ht) (by rw [<-Nat.add_assoc,hdd]; exact hk) (by omega) (fun j hj hj2=>hs j (by omega) hj2)
   refine ⟨rest,?_⟩
   rw [<-ih,f125_L1_eq Qb rfl]
   rw [e3] at l2
   have q:decide (ge A (k0+k2)=ge A (k0+k2-1))=true:=decide_eq_true hne
   have l2':load PP 69 (.ptr r ((k0+(k2-1))*3)) (W σ r A')=some (val (ge A (k0+k2-1))):=by rw [e3]; exact l2
   have hne':=neE_d (ge A (k0+k2)) (ge A (k0+k2-1))
   simp (disch:=omega) only [N,len23o,Qn,ltT,gG,idx23o,l1,sub1,l2',hne',q,f125_J0_eq,add1,show ∀ e,val e=DV.agg (edgD e) from fun _=>rfl]
  ·have hdd:=dd_new (A:=A) (i:=k0+k2) (.inr hne)
   have hkl:k<A'.length:=by omega
   have hst:=stW (σ:=σ) (r:=r) (i:=k) (lo:=0) (A:=A') hr hkl (Nat.zero_le _) (ge A (k0+k2))
   obtain ⟨rest,ih⟩:=cp_L1 (k0:=k0) d (k2+1) (k+1) (A'.set k (ge A (k0+k2))) (by omega) (by omega) (by omega) (by rw [List.length_set]; exact hl)
    (by rw [<-Nat.add_assoc,hdd,<-ht,List.take_succ_eq_append_getElem (by rw [List.length_set]; exact hkl),List.take_set_of_le (Nat.le_refl _)]; simp)
    (by rw [<-Nat.add_assoc,hdd,List.length_append,<-hk]; rfl) (by omega)
    (fun j hj hj2=>by
     have h3:=hs j (by omega) hj2
     have hjk:j≠k:=by omega
     rw [<-h3]
     unfold ge
     simp only [List.getD_eq_getElem?_getD,List.getElem?_set_ne (Ne.symm hjk)])
   refine ⟨rest,?_⟩
   rw [<-ih,f125_L1_eq Qb rfl]
   have q:decide (ge A (k0+k2)=ge A (k0+k2-1))=false:=decide_eq_false hne
   have l2':load PP 69 (.ptr r ((k0+(k2-1))*3)) (W σ r A')=some (val (ge A (k0+k2-1))):=by rw [<-e3]; exact l2
   have hne':=neE_d (ge A (k0+k2)) (ge A (k0+k2-1))
   have hst':store PP 0 69 (.ptr r (k*3)) (.agg (edgD (ge A (k0+k2)))) (W σ r A')=some (W σ r (A'.set k (ge A (k0+k2)))):=hst
   simp (disch:=omega) only [N,len23o,Qn,ltT,gG,idx23o,idx23r,l1,sub1,l2',hne',q,hst',f125_J0_eq,add1,show ∀ e,val e=DV.agg (edgD e) from fun _=>rfl]
theorem cp_L0 (h:σ[r]?=some (.mix (cels A))):∀ (d k:Nat),A.length-k=d->1<=k->k<=A.length->ddT A k=A.take k->
  ∃ rest,f125_L0 Qb 0 (.rsl r 3 0 A.length) (N k) σ=some (.rsl r 3 0 (ddT A A.length).length,σ.set r (.mix (cels (ddT A A.length)++rest)))
 | 0,k,hd,h1,h2,ht=>by
  have e:k=A.length:=by omega
  subst e
  rw [List.take_length] at ht
  refine ⟨[],?_⟩
  have hid:σ.set r (.mix (cels A))=σ:=W_eq h
  rw [f125_L0_eq Qb rfl,ht,List.append_nil,hid]
  simp (disch:=omega) only [N,len23r,Qn,ltF,gG]
 | d+1,k,hd,h1,h2,ht=>by
  have hld:∀ k,k<A.length->load PP 69 (.ptr r (k*3)) σ=some (.agg (edgD (ge A k))):=fun k hk=>by
   have:=ldW (A:=A) hr hk
   rwa [W_eq h] at this
  by_cases hne:ge A k=ge A (k-1)
  ·obtain ⟨rest,ih⟩:=cp_L1 (σ:=σ) hr hn (k0:=k) (A.length-(k+1)) 1 k A rfl (Nat.le_refl 1) (by omega) rfl (by rw [dd_old (by omega) hne]; exact ht.symm) (by rw [dd_old (by omega) hne,ht,List.length_take]; omega) (by omega) (fun j _ _=>rfl)
   rw [W_eq h] at ih
   refine ⟨rest,?_⟩
   rw [<-ih,f125_L0_eq Qb rfl]
   have q:decide (ge A k=ge A (k-1))=true:=decide_eq_true hne
   simp (disch:=omega) only [N,len23r,Qn,ltT,gG,idx23r,hld,sub1,eqE_d,q,sl23a]
   rfl
  ·have hdd:=dd_new (A:=A) (i:=k) (.inr hne)
   obtain ⟨rest,ih⟩:=cp_L0 h d (k+1) (by omega) (by omega) (by omega) (by rw [hdd,ht,List.take_succ_eq_append_getElem (by omega),Zi (by omega)])
   refine ⟨rest,?_⟩
   rw [<-ih,f125_L0_eq Qb rfl]
   have q:decide (ge A k=ge A (k-1))=false:=decide_eq_false hne
   simp (disch:=omega) only [N,len23r,Qn,ltT,gG,idx23r,hld,sub1,eqE_d,q,add1]
theorem S125 (h:σ[r]?=some (.mix (cels A))):∃ rest,CC 0 125 [.rsl r 3 0 A.length] σ=some (.rsl r 3 0 (ddT A A.length).length,σ.set r (.mix (cels (ddT A A.length)++rest))):=by
 have hid:σ.set r (.mix (cels A))=σ:=W_eq h
 by_cases h1:A.length<2
 ·have e:ddT A A.length=A:=by
   match A,h1 with
   | [],_=>rfl
   | [x],_=>rfl
  refine ⟨[],F125_call ?_⟩
  rw [F125_eq,e,List.append_nil,hid]
  simp (disch:=omega) only [len23r,Qn,ltT,gG]
 ·obtain ⟨rest,ih⟩:=cp_L0 hr hn h _ 1 rfl (Nat.le_refl 1) (by omega) (by rw [dd_new (.inl rfl),List.take_succ_eq_append_getElem (by omega),Zi (by omega)]; rfl)
  refine ⟨rest,F125_call ?_⟩
  rw [F125_eq]
  simp (disch:=omega) only [len23r,Qn,ltF,gG]
  exact ih
end
theorem S124n (σ:Qa):CC 0 124 [.p .nilsl,.fn 119 []] σ=some (.tuple [],σ):=by
 obtain ⟨b,e1,h2,h3⟩:=Jj (n:=0) (by omega)
 have c0:CC 0 154 [.p .nilsl,.p (.int .i64 0),.p (.int .i64 ((0:Nat):Int)),.fn 119 []] σ=some (.tuple [],σ):=by
  refine F154_call ?_
  have a1:binOp PP .add 3 (.p (.int .i64 0)) (.p (.int .i64 1))=some (.p (.int .i64 ((1:Nat):Int))):=add1 (a:=0) (by omega)
  rw [F154_eq]
  simp only [a1,gG]
  rw [f154_L0_eq Qb rfl]
  simp (disch:=omega) only [Qn,ltF,gG]
 have c1:CC 0 145 [.p .nilsl,.p (.int .i64 0),.p (.int .i64 ((0:Nat):Int)),I b,.fn 119 []] σ=some (.tuple [],σ):=by
  refine F145_call ?_
  have a2:binOp PP .sub 3 (.p (.int .i64 ((0:Nat):Int))) (.p (.int .i64 0))=some (.p (.int .i64 ((0-0:Nat):Int))):=subN (a:=0) (b:=0) (Nat.le_refl 0) (by omega)
  rw [F145_eq,f145_L0_eq Qb rfl]
  simp (disch:=omega) only [a2,QX,leT,gG,Qq,List.append_nil,c0]
 have hl:len PP 23 (.p .nilsl) σ=some (.p (.int .i64 ((0:Nat):Int))):=by simp [len,u23]
 refine F124_call ?_
 simp only [I,U] at c1 e1
 rw [F124_eq]
 simp (disch:=omega) only [hl,gG,Ji,Qi,Qq,List.append_nil,e1,c1]
def RowT (σ:Qa) (B sz n:Nat) (cs:List PV) (x:DV):Prop:=cs.length=n*sz/\((n=0/\x=.p .nilsl)\/(n≠0/\∃ r rest,x=.rsl r sz 0 n/\σ[r]?=some (.mix (cs.map DV.p++rest))/\B<=r))
open Go.D.StS (RowG KeepBut rowR) in
theorem S115 {σ:Qa} {B:Nat} {es:List Edg} {x:DV} (hx:RowG σ B 3 es.length (Zd es) x) (hn:es.length<=100000) :
  ∃ E' x' σ',CC 0 115 [x] σ=some (x',σ')/\(∀ e,e∈E'↔e∈es)/\E'.length<=es.length/\E'.Pairwise (fun a b=>ordE a b<0)/\KeepBut x σ σ'/\RowT σ' B 3 E'.length (Zd E') x'/\σ.length<=σ'.length:=by
 rcases hx.2 with ⟨e,rfl⟩ | ⟨h0,r,rfl,e2,e3⟩
 ·have:es=[]:=List.length_eq_zero_iff.1 e
  subst this
  refine ⟨[],.p .nilsl,σ,F115_call ?_,fun e=>Iff.rfl,Nat.le_refl _,List.Pairwise.nil,fun j row _ h=>h,⟨rfl,.inl ⟨rfl,rfl⟩⟩,Nat.le_refl _⟩
  have h125:CC 0 125 [.p .nilsl] σ=some (.p .nilsl,σ):=by
   refine F125_call ?_
   rw [F125_eq]
   simp (disch:=omega) only [len23_nil,Qn,ltT,gG]
  rw [F115_eq]
  simp only [Qq,List.append_nil,List.cons_append,List.nil_append,S124n,h125,gG]
 ·rw [<-cels_eq] at e2
  obtain ⟨E',e,s1,s2,s3⟩:=sort_ok (lo:=0) (cf:=119) (cmp:=ordE) S119 ordO (Nat.zero_le _) hn e2
  have hl:E'.length=es.length:=s2.length_eq
  have hr:=QT e2
  have hr2:r<(σ++e).length:=by rw [List.length_append]; omega
  have gr:(W (σ++e) r E')[r]?=some (.mix (cels E')):=Jk hr2 E'
  have hle:=sd_pair (B:=E') (by rw [hl]; exact s3)
  obtain ⟨rest,h125⟩:=S125 (QT gr) (by omega) gr
  rw [hl] at h125
  have hd:=dd_asc hle E'.length (Nat.le_refl _)
  rw [hl] at hd
  have hmem:∀ e,e∈ddT E' es.length↔e∈es:=fun e=>by
   rw [dd_mem,<-s2.mem_iff,<-hl]
   constructor
   ·rintro ⟨j,h1,rfl⟩
    rw [Zi h1]; exact List.getElem_mem h1
   ·intro h
    obtain ⟨j,h1,rfl⟩:=List.getElem_of_mem h
    exact ⟨j,h1,(Zi h1).symm⟩
  have hne:(ddT E' es.length).length≠0:=fun h=>by
   have h1:=List.length_eq_zero_iff.1 h
   have h2:=(hmem (ge E' 0)).2 (s2.mem_iff.1 (by rw [Zi (by omega)]; exact List.getElem_mem _))
   rw [h1] at h2
   exact absurd h2 (by simp)
  have hset:(W (σ++e) r E').set r (.mix (cels (ddT E' es.length)++rest))=(σ++e).set r (.mix (cels (ddT E' es.length)++rest)):=by rw [W,List.set_set]
  rw [hset] at h125
  refine ⟨ddT E' es.length,.rsl r 3 0 (ddT E' es.length).length,(σ++e).set r (.mix (cels (ddT E' es.length)++rest)),F115_call ?_,hmem,dd_len _ _,hd.1,?_,⟨by rw [edgs_length],.inr ⟨hne,r,rest,rfl,by rw [List.getElem?_set_self hr2,cels_eq],e3⟩⟩,by rw [List.length_set,List.length_append]; omega⟩
  ·rw [F115_eq]
   simp only [Qq,List.append_nil,List.cons_append,List.nil_append,s1,h125,gG]
  ·intro j row hj g
   have hne:j≠r:=hj r rfl
   exact Qu (by rw [List.getElem?_append_left (QT g)]; exact g) hne
end Go.D.StT
end
/- Chapter 22: graph as a whole. -/
section
set_option linter.unusedVariables false
set_option linter.unusedSimpArgs false
namespace Go.D.StS
open Go.D.Srt
theorem load95 (x:DV) (σ:Qa):load PP 95 x σ=(Wl σ 6 x).map .agg:=Eq.trans (by kernel_rfl) rfl
theorem s95:size? PP 95=some 6:=Eq.trans (by kernel_rfl) rfl
theorem zero95':Qx PP 95=some [.p (pI 0),.p .nilsl,.p .nilsl,.p .nilsl,.p .nilsl,.p .nilmap]:=Eq.trans (by kernel_rfl) rfl
theorem zero95:∃ z,Qx PP 95=some z/\z.length=6:=⟨_,zero95',rfl⟩
theorem zero134:Qx PP 134=some [.p .nilsl]:=Eq.trans (by kernel_rfl) rfl
theorem bld95 (n:Nat):build PP 95 [(1,.map n)]=some (.agg [.p (pI 0),.p .nilsl,.p .nilsl,.p .nilsl,.p .nilsl,.map n]):=Eq.trans (by kernel_rfl) rfl
theorem st95 {σ:Qa} {t:Nat} {z c:List DV} (h:σ[t]?=some (.mix z)) (hz:z.length=6) (hc:c.length=6) (ho:c.all DV.one=true):store PP 0 95 (.ptr t 0) (.agg c) σ=some (σ.set t (.mix c)):=by
 have e:QS z 0 c=c:=by simp [QS,hz,hc]
 simp [store,s95,DV.cells,Zo,hc,h,hz,ho,e]
theorem WA (P:Program) (t:TypeId) (r off:Nat) (σ:Qa):Vy P t (.ptr r off) σ=load P t (.ptr r off) σ:=rfl
theorem rowG_one {σ:Qa} {B sz n:Nat} {cs:List PV} {x:DV} (h:RowG σ B sz n cs x):x.one=true/\x.cells=[x]:=by
 rcases h.2 with ⟨_,rfl⟩ | ⟨_,q,rfl,_⟩ <;> exact ⟨rfl,rfl⟩
theorem VS {σ:Qa} {B sz n:Nat} {cs:List PV} {x:DV} (h:StT.RowT σ B sz n cs x):x.one=true/\x.cells=[x]:=by
 rcases h.2 with ⟨_,rfl⟩ | ⟨_,q,_,rfl,_⟩ <;> exact ⟨rfl,rfl⟩
theorem len23t {σ σ':Qa} {B:Nat} {es:List Edg} {x:DV} (h:StT.RowT σ B 3 es.length (Zd es) x):len PP 23 x σ'=some (.p (.int .i64 (es.length:Nat))):=by
 rcases h.2 with ⟨e,rfl⟩ | ⟨_,q,_,rfl,_⟩
 ·rw [e]; simp [len,u23]
 ·simp [len,u23]
theorem rowT_set {σ:Qa} {B sz n q:Nat} {cs:List PV} {x:DV} {row:Row} (h:StT.RowT σ B sz n cs x) (hq:q<B):StT.RowT (σ.set q row) B sz n cs x:=by
 refine ⟨h.1,?_⟩
 rcases h.2 with h1 | ⟨h0,r,rest,e1,e2,e3⟩
 ·exact .inl h1
 ·exact .inr ⟨h0,r,rest,e1,Qu e2 (by omega),e3⟩
theorem rowT_snoc {σ:Qa} {B sz n:Nat} {cs:List PV} {x:DV} (h:StT.RowT σ B sz n cs x) (row:Row):StT.RowT (σ++[row]) B sz n cs x:=by
 refine ⟨h.1,?_⟩
 rcases h.2 with h1 | ⟨h0,r,rest,e1,e2,e3⟩
 ·exact .inl h1
 ·exact .inr ⟨h0,r,rest,e1,QM e2,e3⟩
structure GR (lo:Nat) (B:List E) (is:List Int) (E':List Edg) (ix ex bx ax:DV) (σ:Qa):Prop where
 ob:Out σ lo 1 B.length (Qr (B.map Prod.fst)) bx
 oa:Out σ lo 1 B.length (Qr (B.map Prod.snd)) ax
 ri:RowG σ lo 1 is.length (Qr is) ix
 re:StT.RowT σ lo 3 E'.length (Zd E') ex
theorem gr_end {σ0:Qa} {ext:List DV} {m:List (E×Int)} {B:List E} {is:List Int} {ix ex:DV} {es:List Edg} {bx ax y:DV} {σ:Qa} (h:GZ σ0 ext m B (.p (pI B.length)) is ix es ex bx ax y σ) (hB:B.length<=400) (he:es.length<=2000) :
  ∃ E' ex' σ',f85_L5 Qb 0 (.ptr σ0.length 0) (.ptr (σ0.length+1) 0) (.ptr (σ0.length+3) 0) (.ptr (σ0.length+4) 0) y (N B.length) (N B.length) σ=some (.tuple [.agg [.p (pI B.length),ix,ex',bx,ax,.map (σ0.length+2)],.p (pI 0)],σ')/\
   (∀ e,e∈E'↔e∈es)/\E'.length<=es.length/\E'.Pairwise (fun a b=>ordE a b<0)/\GR (σ0.length+5) B is E' ix ex' bx ax σ'/\(∀ j,j<σ0.length->σ'[j]?=σ0[j]?)/\σ'[σ0.length+2]?=some (.map (entZ m))/\(∀ j,j<B.length->WW m (ge B j)=some (j:Int))/\σ0.length+5<=σ'.length:=by
 obtain ⟨E',ex',σ1,p1,p2,pl,p3,p4,p5,p6⟩:=StT.S115 h.re (by omega)
 have gy1:=h.gy.keep h.re p4 h.ey
 have ob1:=Out.keep h.ob h.re p4
 have oa1:=Out.keep h.oa h.re p4
 have ri1:=h.ri.keep p4 (fun r hr he=>h.ie r he hr)
 have hot:=h.gy.g.ot
 have hot1:=gy1.g.ot
 simp only [gP] at hot hot1
 have hst:=st23_2 (v:=ex') hot1 (VS p5).1 (VS p5).2
 have gy2:GY σ0 ext m B [.p (pI B.length),ix,ex',bx,ax] y (σ1.set (σ0.length+3) (.mix [.p (pI B.length),ix,ex',bx,ax,.map (σ0.length+2)])):=gy1.setO (o':=[.p (pI B.length),ix,ex',bx,ax]) rfl
 have ob2:=Out.setLow ob1 (show σ0.length+3<σ0.length+5 by omega) (.mix [.p (pI B.length),ix,ex',bx,ax,.map (σ0.length+2)])
 have oa2:=Out.setLow oa1 (show σ0.length+3<σ0.length+5 by omega) (.mix [.p (pI B.length),ix,ex',bx,ax,.map (σ0.length+2)])
 have ri2:=ri1.setNe (q:=σ0.length+3) (row:=.mix [.p (pI B.length),ix,ex',bx,ax,.map (σ0.length+2)]) (by omega)
 have re2:=rowT_set (q:=σ0.length+3) (row:=.mix [.p (pI B.length),ix,ex',bx,ax,.map (σ0.length+2)]) p5 (by omega)
 generalize hσ2:σ1.set (σ0.length+3) (.mix [.p (pI B.length),ix,ex',bx,ax,.map (σ0.length+2)])=σ2 at *
 have hot2:=gy2.g.ot
 simp only [gP] at hot2
 obtain ⟨z,z1,z2⟩:=gy2.g.z2
 have hl1:=gy2.g.len
 have hone:([.p (pI B.length),ix,ex',bx,ax,.map (σ0.length+2)]:List DV).all DV.one=true:=by
  simp [(VS p5).1,(rowG_one ri1).1,(QQ ob1).1,(QQ oa1).1]
  exact ⟨rfl,rfl⟩
 have hst2:=st95 (c:=[.p (pI B.length),ix,ex',bx,ax,.map (σ0.length+2)]) z1 z2 rfl hone
 have hld:load PP 95 (.ptr (σ0.length+3) 0) σ2=some (.agg [.p (pI B.length),ix,ex',bx,ax,.map (σ0.length+2)]):=by
  rw [load95,QI (vs:=[.p (pI B.length),ix,ex',bx,ax,.map (σ0.length+2)]) hot2 rfl (by simp)]; rfl
 have hcv:Vy PP 95 (.ptr (σ0.length+1) 0) (σ2.set (σ0.length+1) (.mix [.p (pI B.length),ix,ex',bx,ax,.map (σ0.length+2)]))=some (.agg [.p (pI B.length),ix,ex',bx,ax,.map (σ0.length+2)]):=by
  have hg:(σ2.set (σ0.length+1) (.mix [.p (pI B.length),ix,ex',bx,ax,.map (σ0.length+2)]))[σ0.length+1]?=some (.mix [.p (pI B.length),ix,ex',bx,ax,.map (σ0.length+2)]):=by rw [List.getElem?_set_self (by omega)]
  rw [WA,load95,QI (vs:=[.p (pI B.length),ix,ex',bx,ax,.map (σ0.length+2)]) hg rfl (by simp)]; rfl
 refine ⟨E',ex',σ2.set (σ0.length+1) (.mix [.p (pI B.length),ix,ex',bx,ax,.map (σ0.length+2)]),?_,p2,pl,p3,⟨Out.setLow ob2 (by omega) _,Out.setLow oa2 (by omega) _,ri2.setNe (by omega),rowT_set re2 (by omega)⟩,fun j hj=>?_,Qu gy2.g.mp (by omega),h.gm,by rw [List.length_set]; omega⟩
 ·have hE:E'.length<=2000:=by omega
  rw [f85_L5_eq Qb rfl]
  simp (disch:=omega) only [N,Qn,ltF,gG,UR,Wq,Zg,gP,Zc,Qc (off:=2) hot rfl,Qq,p1,hst,Vk,Qc (off:=0) gy2.ay rfl,lenR gy2.ry,Zh,gtF,Qc (off:=2) hot2 rfl,len23t p5,hld,hst2,hcv]
 ·rw [List.getElem?_set_ne (by omega)]
  exact gy2.g.low j hj
theorem gr_main {σ0:Qa} {mv:FuncId} {caps:List DV} {y0:DV} {l:List E} (hy0:y0.one=true) (hyl:∀ σ,len PP 134 y0 σ=some (N l.length)) (hx:∀ k,k<l.length->indexAddr PP 134 y0 (.p (.int .i64 (k:Nat)))=some (.pptr (Vx l) (k*2)))
  (M:E->OE) (Pn:E->Prop) (K:Nat) (hK:K<=400) (hM:∀ x,Pn x->∀ σ:Qa,(∀ j,j<σ0.length->σ[j]?=σ0[j]?)->Qv CC mv (val x::caps) σ=some (.p (eEs (M x)))) (hl:∀ x,Pn x->(L (M x)).length<=200)
  (I:List E->Prop) (hP:∀ A,I A->∀ x∈A,Pn x) (hN:∀ A,I A->A.length<=K/\A.Nodup) (hI:∀ A x,I A->x∈A->I (Zk A ((L (M x)).map toE))) (hI0:I (Zk [] l)) (hl12:l.length<=12) (hasc:Asc l)
  (hcl:∀ x∈groM M K 0 (Zk [] l),∀ e∈L (M x),toE e∈groM M K 0 (Zk [] l)) (hsub:∀ x∈l,x∈groM M K 0 (Zk [] l))
  (hes:∀ B:List E,B.Perm (groM M K 0 (Zk [] l))->Asc B->(rawE M B 0 B).length<=2000) :
  ∃ B E' ix ex bx ax σ' m,CC 0 85 [.agg [y0,.fn mv caps]] σ0=some (.tuple [.agg [.p (pI B.length),ix,ex,bx,ax,.map (σ0.length+2)],.p (pI 0)],σ')/\
   B.Perm (groM M K 0 (Zk [] l))/\Asc B/\((∀ e,e∈E'↔e∈rawE M B 0 B)/\E'.length<=(rawE M B 0 B).length)/\E'.Pairwise (fun a b=>ordE a b<0)/\GR (σ0.length+5) B (nums B l) E' ix ex bx ax σ'/\(∀ j,j<σ0.length->σ'[j]?=σ0[j]?)/\
   σ'[σ0.length+2]?=some (.map (entZ m))/\(∀ j,j<B.length->WW m (ge B j)=some (j:Int))/\σ0.length+5<=σ'.length:=by
 obtain ⟨z2,hz2,hz2l⟩:=zero95
 have g0:GS σ0 [y0,.fn mv caps] (zer []) [] [.p (pI 0),.p .nilsl,.p .nilsl,.p .nilsl,.p .nilsl]
   (σ0++[Row.mix [y0,.fn mv caps],.mix z2,.map [],.mix [.p (pI 0),.p .nilsl,.p .nilsl,.p .nilsl,.p .nilsl,.map (σ0.length+2)],.mix [.p .nilsl]]):=by
  refine ⟨fun j hj=>by rw [List.getElem?_append_left hj],?_,⟨z2,?_,hz2l⟩,?_,?_,rfl,.p .nilsl,?_,.inl ⟨rfl,rfl⟩⟩ <;>
   (rw [List.getElem?_append_right (by omega)]; simp)
  ·rfl
 have hNi:=hN _ hI0
 obtain ⟨σ1,a1,a2⟩:=gr_L0 (x24:=y0) hx (by omega) _ 0 [] _ rfl (Nat.zero_le _) g0 (by rw [List.drop_zero]; have:=hNi.1; omega)
 rw [List.drop_zero] at a2
 obtain ⟨σ2,b1,b2,b3⟩:=gr_L1 ⟨y0,rfl⟩ M Pn K hM (fun x hx=>Nat.le_trans (hl x hx) (by decide)) (by omega) I hP (fun A hA=>(hN A hA).1) hI K 0 _ σ1 rfl (Nat.zero_le _) a2 hI0
 generalize hG:groM M K 0 (Zk [] l)=G at *
 have hGn:=hN _ b2
 obtain ⟨B,σ3,y,c1,c2,c3,c4,c5,c6⟩:=gr_sort b1 (by omega)
 have hBl:B.length=G.length:=c1.length_eq
 have hBnd:B.Nodup:=c1.nodup_iff.2 hGn.2
 have hB:Asc B:=by
  have:=hBnd
  rw [List.nodup_iff_pairwise_ne] at this
  exact c2.imp₂ (fun x y h1 h2=>by
   by_cases hlt:ltB x y
   ·exact hlt
   ·exact absurd (ltB_anti hlt h1) h2) this
 have hmem:∀ x,x∈B↔x∈G:=fun x=>c1.mem_iff
 obtain ⟨m,bx,ax,σ4,d1,d2,d3,d4,d5,d6⟩:=gr_L3 hBnd (by omega) _ 0 (zer G) (.p .nilsl) (.p .nilsl) σ3 rfl (Nat.zero_le _) ⟨c3,c4,c5⟩ Out.zero Out.zero (Apart.nil _) (fun j hj=>by omega)
 have hz:GZ σ0 [y0,.fn mv caps] m B (.p (pI B.length)) (nums B (l.take 0)) (.p .nilsl) [] (.p .nilsl) bx ax y σ4:=
  ⟨d2,d6,d3,d4,d5,RowG.zero,RowG.zero,fun r h=>by simp [rowR] at h,fun r h=>by simp [rowR] at h,fun r h=>by simp [rowR] at h⟩
 have hnl:(nums B l).length=l.length:=by simp [nums]
 obtain ⟨ix,σ5,e1,e2⟩:=gr_L4 hx (fun e he=>(hmem e).2 (hsub e he)) hl12 (fun i hi=>by
  rw [hnl] at hi
  have hlt:=asc_lt hasc (show i<i+1 by omega) hi
  have k1:=ZK ((hmem _).2 (hsub (ge l i) (by rw [Zi (by omega)]; exact List.getElem_mem _)))
  have k2:=ZK ((hmem _).2 (hsub (ge l (i+1)) (by rw [Zi hi]; exact List.getElem_mem _)))
  have q:∀ j,j<l.length->(nums B l).getD j 0=((B.idxOf (ge l j):Nat):Int):=fun j hj=>by
   rw [List.getD_eq_getElem?_getD,List.getElem?_eq_getElem (by rw [hnl]; exact hj),Zi hj]; simp [nums]
  rw [q i (by omega),q (i+1) hi]
  by_cases hle:B.idxOf (ge l (i+1))<=B.idxOf (ge l i)
  ·exfalso
   rcases Nat.lt_or_eq_of_le hle with hlt2 | heq
   ·have:=asc_lt hB hlt2 k1.1
    rw [k1.2,k2.2] at this
    unfold ltB at *; omega
   ·have:=k1.2
    rw [<-heq,k2.2] at this
    rw [this] at hlt
    unfold ltB at hlt; omega
  ·omega) _ 0 _ σ4 rfl (Nat.zero_le _) hz
 obtain ⟨ex,σ6,f1,f2⟩:=gr_L5 M (by omega) (fun x hx=>hM x (hP _ b2 x ((hmem x).1 hx))) (fun x hx=>hl x (hP _ b2 x ((hmem x).1 hx))) (fun x hx e he=>(hmem _).2 (hcl x ((hmem x).1 hx) e he)) _ 0 [] (.p .nilsl) σ5 rfl (Nat.zero_le _) (Nat.zero_le _) e2
 rw [List.drop_zero,List.nil_append] at f2
 have hn2:=hes B c1 hB
 obtain ⟨E',ex',σ',g1,g2,gl,g3,g4,g5,g6,g7,g8⟩:=gr_end f2 (by omega) hn2
 refine ⟨B,E',ix,ex',bx,ax,σ',m,F85_call ?_,c1,hB,⟨g2,gl⟩,g3,g4,g5,g6,g7,g8⟩
 have hbox:boxV (.agg [y0,.fn mv caps])=some [y0,.fn mv caps]:=by
  have:(DV.fn mv caps).one=true:=rfl
  have e:(DV.agg [y0,.fn mv caps]).cells=[y0,.fn mv caps]:=rfl
  simp [boxV,e,hy0,this]
 have hst:store PP 0 95 (.ptr (((σ0++[Row.mix [y0,.fn mv caps]])++[Row.mix z2])++[Row.map []]).length 0) (.agg [.p (pI 0),.p .nilsl,.p .nilsl,.p .nilsl,.p .nilsl,.map (σ0.length+2)]) ((((σ0++[Row.mix [y0,.fn mv caps]])++[Row.mix z2])++[Row.map []])++[Row.mix z2]) =
   some ((((σ0++[Row.mix [y0,.fn mv caps]])++[Row.mix z2])++[Row.map []])++[.mix [.p (pI 0),.p .nilsl,.p .nilsl,.p .nilsl,.p .nilsl,.map (σ0.length+2)]]):=by
  rw [st95 QB hz2l rfl (by rfl),List.set_append_right _ _ (Nat.le_refl _),Nat.sub_self]
  rfl
 have hl2:((σ0++[Row.mix [y0,.fn mv caps]])++[Row.mix z2]).length=σ0.length+2:=by simp
 rw [F85_eq]
 simp only [hbox,hz2,gG,hl2,bld95]
 rw [hst]
 have hsσ:(((((σ0++[Row.mix [y0,.fn mv caps]])++[Row.mix z2])++[Row.map []])++[.mix [.p (pI 0),.p .nilsl,.p .nilsl,.p .nilsl,.p .nilsl,.map (σ0.length+2)]])++[Row.mix [.p .nilsl]]) =
  (σ0++[Row.mix [y0,.fn mv caps],.mix z2,.map [],.mix [.p (pI 0),.p .nilsl,.p .nilsl,.p .nilsl,.p .nilsl,.map (σ0.length+2)],.mix [.p .nilsl]]):=by simp
 have hl3:(((σ0++[Row.mix [y0,.fn mv caps]])++[Row.mix z2])++[Row.map []]).length=σ0.length+3:=by simp
 have hl4:((((σ0++[Row.mix [y0,.fn mv caps]])++[Row.mix z2])++[Row.map []])++[Row.mix [.p (pI 0),.p .nilsl,.p .nilsl,.p .nilsl,.p .nilsl,.map (σ0.length+2)]]).length=σ0.length+4:=by simp
 have hl1:(σ0++[Row.mix [y0,.fn mv caps]]).length=σ0.length+1:=by simp
 simp only [gG,zero134,hl3,hl4,hl1,hsσ,fa137_0,gP,Vk,Qc (off:=0) g0.ex rfl,hyl]
 have hd:=d1
 rw [hyl] at hd
 refine a1.trans (b3.trans (c6.trans (d1.trans ?_)))
 rw [hyl]
 exact e1.trans (f1.trans g1)
end Go.D.StS
end
/- Chapter 22: errors of paths, ticks, and hidden paths. -/
section
set_option linter.unusedVariables false
set_option linter.unusedSimpArgs false
namespace Go.D
def badN (g:Gr) (v:Int):Bool:=!inR v 0 (pred g.n)
def stpK (g:Gr) (p:List Int) (i:Nat):Bool:=(L g.edges).any (VK (p.getD (i-1) 0) (p.getD i 0))
def pthE (g:Gr) (p:List Int):Int:=
 if p.length=0 then 1 else if p.length>60 then 2 else if p.any (badN g)=true then 3 else if (hasI (L g.init) (p.getD 0 0)&&QK (stpK g p) 1 (p.length-1))=true then 0 else 14
theorem idx_ne {α:Type} (q:α->Bool) (l:List α):(!decide (QG q l 0 = -1))=l.any q:=by
 rw [<-idxFrom_ge q l 0]
 have h:∀ (l:List α) (i:Nat),QG q l i = -1\/0<=QG q l i:=by
  intro l
  induction l with
  | nil=>exact fun i=>.inl rfl
  | cons a l ih=>
   intro i
   unfold QG
   split
   ·right; omega
   ·exact ih (i+1)
 rcases h l 0 with h | h
 ·rw [h]; rfl
 ·have h1:¬ QG q l 0 = -1:=by omega
  have h2:QG q l 0>=0:=h
  simp [h1,h2]
theorem idx_lt {α:Type} (q:α->Bool) (l:List α):decide (QG q l 0<0) = !l.any q:=by
 rw [<-idxFrom_ge q l 0]
 by_cases h:QG q l 0<0
 ·have h2:¬ QG q l 0>=0:=by omega
  simp [h,h2]
 ·have h2:QG q l 0>=0:=by omega
  simp [h,h2]
theorem box_int (n:Int):boxV (.p (.int .i64 n))=some [.p (.int .i64 n)]:=rfl
theorem S55 {g:Gr} {s t:Int} {σ:Qa} (he:(L g.edges).length<=10000):Qv CC 55 [.agg (eGr g),.p (pI s),.p (pI t)] σ=some (.p (pI (QG (VK s t) (L g.edges) 0))):=by
 refine Qk (by simp [Zz]; exact ⟨rfl,rfl⟩) rfl (F55_call (r:=(.p (pI (QG (VK s t) (L g.edges) 0)),[Row.mix (eGr g),Row.mix [.p (pI s)],Row.mix [.p (pI t)]])) ?_) rfl
 have g0:([Row.mix (eGr g),Row.mix [.p (pI s)],Row.mix [.p (pI t)]]:Qa)[0]?=some (.mix (eGr g)):=rfl
 have g1:([Row.mix (eGr g),Row.mix [.p (pI s)],Row.mix [.p (pI t)]]:Qa)[1]?=some (.mix [.p (pI s)]):=rfl
 have g2:([Row.mix (eGr g),Row.mix [.p (pI s)],Row.mix [.p (pI t)]]:Qa)[2]?=some (.mix [.p (pI t)]):=rfl
 rw [F55_eq]
 simp only [Zr,box_int,Qz,List.length_nil,List.nil_append,List.length_cons,List.cons_append,Nat.reduceAdd]
 generalize ([Row.mix (eGr g),Row.mix [.p (pI s)],Row.mix [.p (pI t)]]:Qa)=τ at *
 have h90:Qv CC 90 [.p (eEs g.edges),.fn 91 [.ptr 1 0,.ptr 2 0]] τ=some (.p (pI (QG (VK s t) (L g.edges) 0))):=S90 he (by
  rintro σ0 (⟨_,hb⟩ | rfl) e
  ·simp [ZT] at hb
  ·exact S91 g1 g2)
 simp only [Zg,gP,Zc,Qc (off:=2) g0 rfl,h90,Qz]
theorem S87b {g:Gr} {o:OI} {σ:Qa} (h:σ[0]?=some (.mix (eGr g))) (hl:(L o).length<=1000):Qv CC 86 [.p (eSl o),.fn 87 [.ptr 0 0]] σ=some (.p (.bool ((L o).any (badN g)))):=S86 hl (by
 rintro σ0 (⟨_,hb⟩ | rfl) v
 ·simp [ZT] at hb
 ·exact S87 h)
theorem slice1 {o:OI} (h:1<=(L o).length):∃ v,Zy PP 22 (.p (eSl o)) (some (.p (.int .i64 1))) none none=some v/\∀ σ,len PP 22 v σ=some (.p (.int .i64 ((L o).length-1:Nat))):=by
 cases o with
 | none=>simp at h
 | some l=>
  have h1:(1:Int)<=(l.length:Nat):=by simp at h; omega
  have hl:1<=l.length:=by simpa using h
  refine ⟨_,by simp [Zy,u22,s3,Wj,eSl,h1,hl]; rfl,fun σ=>by simp [len,u22]⟩
theorem bs143_3' (a b c:Int) (σ:Qa):buildSlice PP none 143 3 [(0,.p (pI a)),(1,.p (pI b)),(2,.p (pI c))] σ=some (.p (.sl true 3 (Qr [a,b,c])),σ):=bs143_3 a b c σ
theorem Wy {σ:Qa} {g:Gr} (h:σ[0]?=some (.mix (eGr g))):load PP 25 (.ptr 0 0) σ=some (.agg (eGr g)):=by rw [UN,QI (vs:=eGr g) h rfl (by simp [eGr])]; rfl
theorem L54 {g:Gr} {o:OI} {σ:Qa} (h:σ[0]?=some (.mix (eGr g))) (he:(L g.edges).length<=10000) (hl:(L o).length<=1000) (lo:Nat) :
  ∀ (k i:Nat) (b:Bool),(L o).length-1-i=k->i+1<=(L o).length->f54_L0 Qb lo (.p (eSl o)) (.ptr 0 0) (.p (.bool b)) (.p (.int .i64 ((L o).length-1:Nat))) (N i) σ=some (.p (pI (if (b&&QK (stpK g (L o)) (i+1) k)=true then 0 else 14)),σ)
 | 0,i,b,hk,hi=>by
  have hn:¬ ((i:Int)<((L o).length-1:Nat)):=by omega
  rw [f54_L0_eq Qb rfl]
  simp only [N,Qn,ltF hn,gG,gP,S73,QK,Bool.and_true]
 | k+1,i,b,hk,hi=>by
  have hlt:(i:Int)<((L o).length-1:Nat):=by omega
  have h0:i<(L o).length:=by omega
  have h1:i+1<(L o).length:=by omega
  have ih:=fun b=>L54 h he hl lo k (i+1) b (by omega) (by omega)
  rw [f54_L0_eq Qb rfl,QK]
  cases b with
  | false=>
   simp (disch:=omega) only [N,Qn,ltT hlt,gG,add1]
   refine (ih _).trans ?_
   simp only [Bool.false_and]
  | true=>
   simp (disch:=omega) only [N,Qn,ltT hlt,gG,Wy h,idxL,QF,ldL,add1,gP,S55 he,Wh,idx_ne]
   refine (ih _).trans ?_
   simp only [Bool.true_and,stpK,Nat.add_sub_cancel]
theorem S54 {g:Gr} {o:OI} {σ:Qa} (hl:(L o).length<=1000) (hi:(L g.init).length<=1000) (he:(L g.edges).length<=10000):Qv CC 54 [.agg (eGr g),.p (eSl o)] σ=some (.p (pI (pthE g (L o)))):=by
 have g0:([Row.mix (eGr g)]:Qa)[0]?=some (.mix (eGr g)):=rfl
 refine Qk (by simp [Zz,Zf]) rfl (F54_call (r:=(.p (pI (pthE g (L o))),[.mix (eGr g)])) ?_) rfl
 rw [F54_eq]
 simp only [Zr,Qz,List.length_nil,List.nil_append]
 generalize ([Row.mix (eGr g)]:Qa)=τ at *
 have h53:∀ (a b c:Int) (σ:Qa),Qv CC 53 [.p (.sl true 3 (Qr [a,b,c]))] σ=some (.p (pI (orL [a,b,c]))):=fun a b c σ=>S53t (l:=[a,b,c]) rfl (by simp)
 simp only [gP,S87b g0 hl,QZ,Zh,QX,S73,ZD,gG,bs143_3',h53,Wh]
 unfold pthE
 by_cases h1:(L o).length=0
 ·have h1':¬ ((L o).length:Int)>0:=by omega
  rw [if_pos h1,decide_eq_false h1']
  simp only [Bool.false_eq_true,if_false,orL,gG]
  rfl
 ·have h1':((L o).length:Int)>0:=by omega
  rw [if_neg h1,decide_eq_true h1']
  by_cases h2:(L o).length>60
  ·have h2':¬ ((L o).length:Int)<=60:=by omega
   rw [if_pos h2,decide_eq_false h2']
   simp only [Bool.false_eq_true,if_false,if_true,orL,gG]
   rfl
  ·have h2':((L o).length:Int)<=60:=by omega
   rw [if_neg h2,decide_eq_true h2']
   cases h3:(L o).any (badN g) with
   | true=>
    simp only [gG,Bool.false_eq_true,if_false,if_true,orL]
    rfl
   | false=>
    obtain ⟨v,hv1,hv2⟩:=slice1 (o:=o) (by omega)
    have hx0:indexAddr PP 22 (.p (eSl o)) (.p (.int .i64 0))=some (.pptr (Qr (L o)) 0):=idxL (i:=0) (by omega)
    have hld:=fun σ=>ldL (o:=o) (i:=0) (by omega) σ
    have hL:=L54 g0 he hl 0 ((L o).length-1) 0 (hasI (L g.init) ((L o).getD 0 0)) rfl (by omega)
    have hL:f54_L0 Qb 0 (.p (eSl o)) (.ptr 0 0) (.p (.bool (hasI (L g.init) ((L o).getD 0 0)))) (.p (.int .i64 ((L o).length-1:Nat))) (.p (.int .i64 0)) τ=_:=hL
    simp only [gG,Bool.false_eq_true,if_false,if_true,orL,eqT (rfl:(0:Int)=0),WE,gP,QO,Qc (off:=1) g0 rfl,hx0,QF,hld,S89 hi,hv1,hv2,hL]
theorem L63 {g:Gr} {s t:Int} {σ:Qa} {lo:Nat} (h0:σ[0]?=some (.mix (eGr g))) (hl:(L g.edges).length<=10000) :
  ∀ (k i:Nat),(L g.edges).length-i=k->i<=(L g.edges).length->f63_L0 Qb lo (.p (pI s)) (.p (pI t)) (.ptr 0 0) (N i) σ=some (.p (pI (QG (VK s t) ((L g.edges).drop i) i)),σ)
 | 0,i,hk,hi=>by
  have hn:¬ ((i:Int)<((L g.edges).length:Nat)):=by omega
  rw [f63_L0_eq Qb rfl,List.drop_of_length_le (by omega)]
  simp only [N,Zg,gP,Zc,Qc (off:=2) h0 rfl,Ww,Qn,ltF hn,gG,QG]
 | k+1,i,hk,hi=>by
  have h:i<(L g.edges).length:=by omega
  have h':(i:Int)<((L g.edges).length:Nat):=by omega
  obtain ⟨g1,g2,g3⟩:=edgs_get (L g.edges) i h
  have ih:=L63 (s:=s) (t:=t) (lo:=lo) h0 hl k (i+1) (by omega) (by omega)
  have ih:f63_L0 Qb lo (.p (pI s)) (.p (pI t)) (.ptr 0 0) (.p (.int .i64 ((i+1:Nat)))) σ=_:=ih
  rw [f63_L0_eq Qb rfl,Wz h,QG]
  simp only [N,Zg,VY,gP,Zc,Qc (off:=2) h0 rfl,Ww,Qn,ltT h',gG,Uq h,QF,load1_pptr g1,QV]
  by_cases e1:(L g.edges)[i].f=s
  ·simp only [eqT e1,gG,Zg,VN,gP,Zc,Qc (off:=2) h0 rfl,Uq h,QF,load1_pptr g2,QV]
   by_cases e2:(L g.edges)[i].t=t
   ·simp only [eqT e2,gG,VK,eqT e1,Bool.true_and,if_true]
   ·simp (disch:=omega) only [eqF e2,gG,VK,eqT e1,Bool.true_and,Bool.false_eq_true,if_false,add1]
    exact ih
  ·simp (disch:=omega) only [eqF e1,gG,VK,Bool.false_and,Bool.false_eq_true,if_false,add1]
   exact ih
theorem S63 {g:Gr} {s t:Int} {σ:Qa} (hl:(L g.edges).length<=10000):Qv CC 63 [.agg (eGr g),.p (pI s),.p (pI t)] σ=some (.p (pI (QG (VK s t) (L g.edges) 0))):=by
 have g0:([Row.mix (eGr g)]:Qa)[0]?=some (.mix (eGr g)):=rfl
 refine Qk (by simp [Zz]; exact ⟨rfl,rfl⟩) rfl (F63_call (r:=(.p (pI (QG (VK s t) (L g.edges) 0)),[.mix (eGr g)])) ?_) rfl
 rw [F63_eq]
 simp only [Zr,Qz,List.length_nil,List.nil_append]
 exact L63 (lo:=0) g0 hl _ 0 rfl (Nat.zero_le _)
section
variable {g : Gr} {o : OI} {σ : Qa} (h0 : σ[0]? = some (.mix (eGr g))) (hl : (L o).length <= 1000) (hi : (L g.init).length <= 1000) (he : (L g.edges).length <= 10000)
include h0 hl hi he
omit hi in
theorem L22_1 (lo:Nat):∀ (k i:Nat),(L o).length-i=k->1<=i->f22_L1 Qb lo (.p (eSl o)) (.ptr 0 0) (N i) σ=some (.p (pI (if QK (stpK g (L o)) i k=true then 0 else 14)),σ)
 | 0,i,hk,h1=>by
  have hn:¬ ((i:Int)<((L o).length:Nat)):=by omega
  rw [f22_L1_eq Qb rfl]
  simp only [N,QZ,Qn,ltF hn,gG,QK,if_true]
 | k+1,i,hk,h1=>by
  have hlt:(i:Int)<((L o).length:Nat):=by omega
  have ha:i-1<(L o).length:=by omega
  have hb:i<(L o).length:=by omega
  have ih:=L22_1 lo k (i+1) (by omega) (by omega)
  rw [f22_L1_eq Qb rfl,QK]
  simp (disch:=omega) only [N,QZ,Qn,ltT hlt,gG,Wy h0,sub1,idxL,QF,ldL,gP,S63 he,idx_lt]
  have e:stpK g (L o) i=(L g.edges).any (VK ((L o).getD (i-1) 0) ((L o).getD i 0)):=rfl
  rw [<-e]
  cases stpK g (L o) i with
  | false=>simp only [gG,Bool.false_and,Bool.false_eq_true,if_false]
  | true=>
   simp (disch:=omega) only [gG,add1,Bool.true_and]
   exact ih
theorem L22_0 (hpos:0<(L o).length) (lo:Nat):∀ (k i:Nat),(L o).length-i=k->i<=(L o).length->f22_L0 Qb lo (.p (eSl o)) (.ptr 0 0) (N i) σ =
  some (.p (pI (if ((L o).drop i).any (badN g)=true then 3 else if (hasI (L g.init) ((L o).getD 0 0)&&QK (stpK g (L o)) 1 ((L o).length-1))=true then 0 else 14)),σ)
 | 0,i,hk,h1=>by
  have hn:¬ ((i:Int)<((L o).length:Nat)):=by omega
  have hx0:indexAddr PP 22 (.p (eSl o)) (.p (.int .i64 0))=some (.pptr (Qr (L o)) 0):=idxL (i:=0) (by omega)
  have hld:=fun σ=>ldL (o:=o) (i:=0) (by omega) σ
  have hL:=L22_1 h0 hl he lo ((L o).length-1) 1 rfl (Nat.le_refl _)
  have hL:f22_L1 Qb lo (.p (eSl o)) (.ptr 0 0) (.p (.int .i64 1)) σ=_:=hL
  rw [f22_L0_eq Qb rfl,List.drop_of_length_le (by omega)]
  simp only [N,QZ,Qn,ltF hn,gG,WE,gP,QO,Qc (off:=1) h0 rfl,hx0,QF,hld,S62 hi,ZD,List.any_nil,Bool.false_eq_true,if_false]
  cases hasI (L g.init) ((L o).getD 0 0) with
  | false=>simp only [gG,Bool.false_and,Bool.false_eq_true,if_false]
  | true=>
   simp only [gG,Bool.true_and]
   exact hL
 | k+1,i,hk,h1=>by
  have hlt:(i:Int)<((L o).length:Nat):=by omega
  have hb:i<(L o).length:=by omega
  have ih:=L22_0 hpos lo k (i+1) (by omega) (by omega)
  have eo:(L o).drop i=(L o).getD i 0::(L o).drop (i+1):=by rw [Zp 0 hb]; exact List.drop_eq_getElem_cons hb
  rw [f22_L0_eq Qb rfl,eo,List.any_cons]
  simp (disch:=omega) only [N,QZ,Qn,ltT hlt,gG,idxL,QF,ldL,We,gP,Qc (off:=0) h0 rfl,WD,S61,ZD]
  have e:badN g ((L o).getD i 0) = !inR ((L o).getD i 0) 0 (pred g.n):=rfl
  rw [e]
  cases inR ((L o).getD i 0) 0 (pred g.n) with
  | false=>simp only [gG,Bool.true_or,if_true]
  | true=>
   simp (disch:=omega) only [gG,add1,Bool.false_or]
   exact ih
end
theorem S22 {g:Gr} {o:OI} {σ:Qa} (hl:(L o).length<=1000) (hi:(L g.init).length<=1000) (he:(L g.edges).length<=10000):Qv CC 22 [.agg (eGr g),.p (eSl o)] σ=some (.p (pI (pthE g (L o)))):=by
 have g0:([Row.mix (eGr g)]:Qa)[0]?=some (.mix (eGr g)):=rfl
 refine Qk (by simp [Zz,Zf]) rfl (F22_call (r:=(.p (pI (pthE g (L o))),[.mix (eGr g)])) ?_) rfl
 rw [F22_eq]
 simp only [Zr,Qz,List.length_nil,List.nil_append]
 generalize ([Row.mix (eGr g)]:Qa)=τ at *
 unfold pthE
 by_cases h1:(L o).length=0
 ·have h1':((L o).length:Int)=0:=by omega
  rw [if_pos h1]
  simp only [QZ,QV,eqT h1',gG]
 ·have h1':¬ ((L o).length:Int)=0:=by omega
  rw [if_neg h1]
  simp only [QZ,QV,eqF h1',gG,Zh]
  by_cases h2:(L o).length>60
  ·have h2':((L o).length:Int)>60:=by omega
   rw [if_pos h2,decide_eq_true h2']
   simp only [gG]
  ·have h2':¬ ((L o).length:Int)>60:=by omega
   have hL:=L22_0 g0 hl hi he (by omega) 0 _ 0 rfl (Nat.zero_le _)
   rw [List.drop_zero] at hL
   rw [if_neg h2,decide_eq_false h2']
   simp only [gG]
   exact hL
end Go.D
end
/- Chapter 22: ticks and hidden paths, in the program and in the reference. -/
section
set_option linter.unusedVariables false
set_option linter.unusedSimpArgs false
namespace Go.D
def UY (s t:Int) (e:Edg):Bool:=decide (e.f=s)&&(decide (e.t=t)&&!decide (e.a=11))
theorem S101 {σ:Qa} {r1 r2:Nat} {s t:Int} {e:Edg} (h1:σ[r1]?=some (.mix [.p (pI s)])) (h2:σ[r2]?=some (.mix [.p (pI t)])):Qv CC 101 [.agg (edgD e),.ptr r1 0,.ptr r2 0] σ=some (.p (.bool (UY s t e))):=by
 refine Wp rfl rfl (F101_call (r:=(.p (.bool (UY s t e)),σ++[.mix (edgD e)])) ?_) rfl
 rw [F101_eq]
 have hx:(σ++[Row.mix (edgD e)])[σ.length]?=some (.mix (edgD e)):=QB
 have h1':(σ++[Row.mix (edgD e)])[r1]?=some (.mix [.p (pI s)]):=QM h1
 have h2':(σ++[Row.mix (edgD e)])[r2]?=some (.mix [.p (pI t)]):=QM h2
 simp only [box_edg,Qz,VY,gP,QF,Qc (off:=0) hx rfl,Qc (off:=0) h1' rfl,QV,UY]
 by_cases e1:e.f=s
 ·simp only [eqT e1,gG,VN,gP,QF,Qc (off:=1) hx rfl,Qc (off:=0) h2' rfl,QV,Bool.true_and]
  by_cases e2:e.t=t
  ·simp only [eqT e2,gG,VD,gP,QF,Qc (off:=2) hx rfl,Wh,Bool.true_and]
  ·simp only [eqF e2,gG,Bool.false_and]
 ·simp only [eqF e1,gG,Bool.false_and]
def tkA (g:Gr) (s t:Int):Bool:=!(L g.edges).any (UY s t)
theorem S68 {g:Gr} {s t:Int} {σ:Qa} (he:(L g.edges).length<=10000):Qv CC 68 [.agg (eGr g),.p (pI s),.p (pI t)] σ=some (.p (.bool (tkA g s t))):=by
 refine Qk (by simp [Zz]; exact ⟨rfl,rfl⟩) rfl (F68_call (r:=(.p (.bool (tkA g s t)),[Row.mix (eGr g),Row.mix [.p (pI s)],Row.mix [.p (pI t)]])) ?_) rfl
 have g0:([Row.mix (eGr g),Row.mix [.p (pI s)],Row.mix [.p (pI t)]]:Qa)[0]?=some (.mix (eGr g)):=rfl
 have g1:([Row.mix (eGr g),Row.mix [.p (pI s)],Row.mix [.p (pI t)]]:Qa)[1]?=some (.mix [.p (pI s)]):=rfl
 have g2:([Row.mix (eGr g),Row.mix [.p (pI s)],Row.mix [.p (pI t)]]:Qa)[2]?=some (.mix [.p (pI t)]):=rfl
 rw [F68_eq]
 simp only [Zr,box_int,Qz,List.length_nil,List.nil_append,List.length_cons,List.cons_append,Nat.reduceAdd]
 generalize ([Row.mix (eGr g),Row.mix [.p (pI s)],Row.mix [.p (pI t)]]:Qa)=τ at *
 have h100:Qv CC 100 [.p (eEs g.edges),.fn 101 [.ptr 1 0,.ptr 2 0]] τ=some (.p (.bool ((L g.edges).any (UY s t)))):=S100 he (by
  rintro σ0 (⟨_,hb⟩ | rfl) e
  ·simp [ZT] at hb
  ·exact S101 g1 g2)
 simp only [Zg,gP,Zc,Qc (off:=2) g0 rfl,h100,Qz,ZD,tkA]
def bAt (x:Ax) (s:Int):Int:=(L x.b).getD s.toNat 0
def skp (x:Ax) (p:List Int) (i:Nat):Bool:=decide ((i:Int)>0)&&(decide (bAt x (p.getD i 0)=bAt x (p.getD (i-1) 0))&&tkA x.g (p.getD (i-1) 0) (p.getD i 0))
def hidU (x:Ax) (p:List Int):Nat->List Int
 | 0=>[]
 | i+1=>if skp x p i=true then hidU x p i else hidU x p i++[bAt x (p.getD i 0)]
theorem hidU_len (x:Ax) (p:List Int):∀ i,(hidU x p i).length<=i
 | 0=>Nat.le_refl _
 | i+1=>by
  have:=hidU_len x p i
  unfold hidU
  split
  ·omega
  ·simp; omega
def InB (x:Ax) (p:List Int):Prop:=∀ i,i<p.length->0<=p.getD i 0/\(p.getD i 0).toNat<(L x.b).length
theorem idxi {o:OI} {n:Int} (h0:0<=n) (h:n.toNat<(L o).length):indexAddr PP 22 (.p (eSl o)) (.p (.int .i64 n))=some (.pptr (Qr (L o)) n.toNat):=by
 have e:n=((n.toNat:Nat):Int):=by omega
 rw [e]
 exact idxL (by simpa using h)
section
variable {x : Ax} {o : OI} (hs : XSm x) (hp : (L o).length <= 1000) (hin : InB x (L o))
include hs hp hin
theorem L31:∀ (k i:Nat) (y:DV) (σ:Qa),(L o).length-i=k->i<=(L o).length->σ[0]?=some (.mix (eAx x))->Out σ 1 1 (hidU x (L o) i).length (Qr (hidU x (L o) i)) y->
  ∃ y' σ',f31_L0 Qb 0 (.p (eSl o)) (.ptr 0 0) y (.p (eSl o)) (N (L o).length) (N i) σ=some (.tuple [y',.p (.int .i64 0)],σ')/\Out σ' 1 1 (hidU x (L o) (L o).length).length (Qr (hidU x (L o) (L o).length)) y'
 | 0,i,y,σ,hk,hi,h0,ho=>by
  have:i=(L o).length:=by omega
  subst this
  have hn:¬ (((L o).length:Nat):Int)<((L o).length:Nat):=by omega
  refine ⟨y,σ,?_,ho⟩
  rw [f31_L0_eq Qb rfl]
  simp only [N,Qn,ltF hn,gG]
 | k+1,i,y,σ,hk,hi,h0,ho=>by
  have hil:i<(L o).length:=by omega
  have hlt:(i:Int)<((L o).length:Nat):=by omega
  obtain ⟨a0,a1⟩:=hin i hil
  have hul:=hidU_len x (L o) i
  have app:skp x (L o) i=false->∃ y' σ',append PP 0 false 22 22 y (.p (.sl true 1 [pI (bAt x ((L o).getD i 0))])) σ=some (y',σ')/\
    ∃ y'' σ'',f31_L0 Qb 0 (.p (eSl o)) (.ptr 0 0) y' (.p (eSl o)) (N (L o).length) (N (i+1)) σ'=some (.tuple [y'',.p (.int .i64 0)],σ'')/\Out σ'' 1 1 (hidU x (L o) (L o).length).length (Qr (hidU x (L o) (L o).length)) y'':=by
   intro hsk
   have hlen:1<=σ.length:=by have:=QT h0; omega
   obtain ⟨y',σ',e1,o1,t1⟩:=ho.push22 (v:=pI (bAt x ((L o).getD i 0))) (by omega) hlen
   have e1:=app_lo ho e1
   refine ⟨y',σ',e1,?_⟩
   have e2:hidU x (L o) (i+1)=hidU x (L o) i++[bAt x ((L o).getD i 0)]:=by rw [hidU,hsk]; rfl
   have o1:Out σ' 1 1 (hidU x (L o) (i+1)).length (Qr (hidU x (L o) (i+1))) y':=by
    rw [e2,List.length_append]
    have e3:Qr (hidU x (L o) i++[bAt x ((L o).getD i 0)])=Qr (hidU x (L o) i)++[pI (bAt x ((L o).getD i 0))]:=by simp [Qr]
    rw [e3]
    exact o1
   have h0':σ'[0]?=some (.mix (eAx x)):=t1.1 0 _ h0 fun r ver sz n cs e=>by
    rcases ho.2 with ⟨_,hz⟩ | ⟨_,r2,ver2,e3,_,e4⟩
    ·rw [hz] at e; exact absurd e (by simp)
    ·rw [e3] at e; injection e with e5; omega
   exact L31 k (i+1) y' σ' (by omega) (by omega) h0' o1
  have skip:skp x (L o) i=true->∃ y'' σ'',f31_L0 Qb 0 (.p (eSl o)) (.ptr 0 0) y (.p (eSl o)) (N (L o).length) (N (i+1)) σ=some (.tuple [y'',.p (.int .i64 0)],σ'')/\Out σ'' 1 1 (hidU x (L o) (L o).length).length (Qr (hidU x (L o) (L o).length)) y'':=by
   intro hsk
   have e2:hidU x (L o) (i+1)=hidU x (L o) i:=by rw [hidU,hsk]; rfl
   exact L31 k (i+1) y σ (by omega) (by omega) h0 (by rw [e2]; exact ho)
  have hbi:∀ s:Int,0<=s->s.toNat<(L x.b).length->∀ σ,ZX (.pptr (Qr (L x.b)) s.toNat) σ=some (.p (.int .i64 (bAt x s))):=fun s h1 h2 σ=>ldL h2 σ
  rw [f31_L0_eq Qb rfl]
  by_cases hi0:(i:Int)>0
  ·obtain ⟨b0,b1⟩:=hin (i-1) (by omega)
   simp (disch:=omega) only [N,Qn,ltT hlt,gG,idxL hil,QF,ldL hil,Zh,decide_eq_true hi0,Wi,gP,ax_b h0,idxi a0 a1,hbi _ a0 a1,sub1,idxL,ldL,idxi b0 b1,hbi _ b0 b1,QV]
   by_cases e1:bAt x ((L o).getD i 0)=bAt x ((L o).getD (i-1) 0)
   ·simp (disch:=omega) only [eqT e1,gG,Wq,gP,ax_g h0,sub1,idxL,QF,ldL,S68 hs.e]
    cases e2:tkA x.g ((L o).getD (i-1) 0) ((L o).getD i 0) with
    | true=>
     have hsk:skp x (L o) i=true:=by rw [skp,decide_eq_true hi0,eqT e1,e2]; rfl
     obtain ⟨y'',σ'',q1,q2⟩:=skip hsk
     refine ⟨y'',σ'',?_,q2⟩
     simp (disch:=omega) only [gG,f31_J0_eq,add1]
     exact q1
    | false=>
     have hsk:skp x (L o) i=false:=by rw [skp,e2,Bool.and_false,Bool.and_false]
     obtain ⟨y',σ',q0,y'',σ'',q1,q2⟩:=app hsk
     refine ⟨y'',σ'',?_,q2⟩
     simp (disch:=omega) only [gG,Wi,gP,ax_b h0,idxi a0 a1,QF,hbi _ a0 a1,Vs,q0,f31_J0_eq,add1]
     exact q1
   ·have hsk:skp x (L o) i=false:=by rw [skp,eqF e1,Bool.false_and,Bool.and_false]
    obtain ⟨y',σ',q0,y'',σ'',q1,q2⟩:=app hsk
    refine ⟨y'',σ'',?_,q2⟩
    simp (disch:=omega) only [eqF e1,gG,Wi,gP,ax_b h0,idxi a0 a1,QF,hbi _ a0 a1,Vs,q0,f31_J0_eq,add1]
    exact q1
  ·have hsk:skp x (L o) i=false:=by rw [skp,decide_eq_false hi0,Bool.false_and]
   obtain ⟨y',σ',q0,y'',σ'',q1,q2⟩:=app hsk
   refine ⟨y'',σ'',?_,q2⟩
   simp (disch:=omega) only [N,Qn,ltT hlt,gG,idxL hil,QF,ldL hil,Zh,decide_eq_false hi0,Wi,gP,ax_b h0,idxi a0 a1,hbi _ a0 a1,Vs,q0,f31_J0_eq,add1]
   exact q1
where
 app_lo {σ:Qa} {A:List Int} {y y1:DV} {σ1:Qa} {v:DV} (hO:Out σ 1 1 A.length (Qr A) y) (h:append PP 1 false 22 22 y v σ=some (y1,σ1)):append PP 0 false 22 22 y v σ=some (y1,σ1):=by
  rw [<-h]
  rcases hO.2 with ⟨_,rfl⟩ | ⟨_,r,ver,rfl,_,h5⟩
  ·simp only [append]
  ·simp only [append,Ux,h5,Nat.zero_le]
end
def oI (l:List Int):OI:=if l=[] then none else some l
theorem L_oI (l:List Int):L (oI l)=l:=by
 unfold oI
 split
 ·rename_i h; rw [h]; rfl
 ·rfl
theorem thaw_oI {σ σ':Qa} {lo:Nat} {l:List Int} {y:DV} (m:Nat) (h:Out σ lo 1 l.length (Qr l) y):thaw m σ' y=some (.p (eSl (oI l))):=by
 rcases h.2 with ⟨e,rfl⟩ | ⟨e,r,ver,rfl,_,_⟩
 ·have:l=[]:=List.length_eq_zero_iff.1 e
  subst this; rfl
 ·have:l≠[]:=fun h=>e (by rw [h]; rfl)
  rw [oI,if_neg this]
  simp [thaw,Uu,Vv,Zu,eSl]
theorem inB_of {x:Ax} {p:List Int} (h1:extE x=0) (h2:pthE x.g p=0):InB x p:=by
 have hg:isG x.g=true:=by
  cases hg:isG x.g with
  | true=>rfl
  | false=>rw [extE,hg] at h1; simp at h1
 rw [extE,if_pos hg] at h1
 have hl:lenX x=true:=by
  cases hl:lenX x with
  | true=>rfl
  | false=>rw [hl] at h1; simp at h1
 have hl:=((extE_ok x).1 hl).1
 have hn:inR x.g.n 0 400=true:=by
  simp only [isG,Bool.and_eq_true] at hg
  exact hg.1.1.1
 have hn:0<=x.g.n/\x.g.n<=400:=by simpa [inR] using hn
 have hb:p.any (badN x.g)=false:=by
  unfold pthE at h2
  split at h2
  ·exact absurd h2 (by decide)
  ·split at h2
   ·exact absurd h2 (by decide)
   ·split at h2
    ·exact absurd h2 (by decide)
    ·rename_i h; simpa using h
 intro i hi
 rw [List.any_eq_false] at hb
 have:=hb (p.getD i 0) (by rw [Zp 0 hi]; exact List.getElem_mem hi)
 have hp:pred x.g.n=x.g.n-1:=QE (by omega) (by omega)
 simp only [badN,inR,hp,Bool.not_eq_true,Bool.not_eq_false',Bool.and_eq_true,decide_eq_true_eq] at this
 omega
def resH (x:Ax) (p:List Int):DV:=if extE x=0 then (if pthE x.g p=0 then .tuple [.p (eSl (oI (hidU x p p.length))),.p (pI 0)] else .tuple [.p .nilsl,.p (pI (pthE x.g p))]) else .tuple [.p .nilsl,.p (pI (extE x))]
theorem S31 {x:Ax} {o:OI} {σ:Qa} (hs:XSm x) (hp:(L o).length<=1000):Qv CC 31 [.agg (eAx x),.p (eSl o)] σ=some (resH x (L o)):=by
 have g0:([Row.mix (eAx x)]:Qa)[0]?=some (.mix (eAx x)):=rfl
 have h67:=fun σ=>S67 (x:=x) (σ:=σ) hs
 have h54:=fun σ=>S54 (g:=x.g) (o:=o) (σ:=σ) hp hs.i hs.e
 unfold resH
 by_cases h1:extE x=0
 ·rw [if_pos h1]
  by_cases h2:pthE x.g (L o)=0
  ·rw [if_pos h2]
   obtain ⟨y,σ',e1,o1⟩:=L31 hs hp (inB_of h1 h2) _ 0 (.p .nilsl) [Row.mix (eAx x)] (Nat.sub_zero _) (Nat.zero_le _) g0 Out.zero
   refine Qk (by simp [WZ,Zf]) rfl (F31_call (r:=(.tuple [y,.p (.int .i64 0)],σ')) ?_) ?_
   ·have e1:f31_L0 Qb 0 (.p (eSl o)) (.ptr 0 0) (.p .nilsl) (.p (eSl o)) (.p (.int .i64 ((L o).length:Nat))) (.p (.int .i64 0)) [Row.mix (eAx x)]=_:=e1
    rw [F31_eq]
    simp only [Ua,Qz,List.length_nil,List.nil_append,VE g0,gP,h67,Wh,eqT h1,gG,Wq,ax_g g0,h54,eqT h2,QZ,e1]
   ·show (mapO (Zx 0 σ') [y,.p (.int .i64 0)]).map DV.tuple=_
    have h3:Zx 0 σ' y=some (.p (eSl (oI (hidU x (L o) (L o).length)))):=by
     have:=thaw_oI (σ':=σ') 0 o1
     rcases o1.2 with ⟨_,rfl⟩ | ⟨_,r,ver,rfl,_,_⟩ <;> exact this
    rw [mapO,h3]
    rfl
  ·rw [if_neg h2]
   refine Qk (by simp [WZ,Zf]) rfl (F31_call (r:=(.tuple [.p .nilsl,.p (pI (pthE x.g (L o)))],[Row.mix (eAx x)])) ?_) rfl
   rw [F31_eq]
   simp only [Ua,Qz,List.length_nil,List.nil_append,VE g0,gP,h67,Wh,eqT h1,gG,Wq,ax_g g0,h54,eqF h2]
 ·rw [if_neg h1]
  refine Qk (by simp [WZ,Zf]) rfl (F31_call (r:=(.tuple [.p .nilsl,.p (pI (extE x))],[Row.mix (eAx x)])) ?_) rfl
  rw [F31_eq]
  simp only [Ua,Qz,List.length_nil,List.nil_append,VE g0,gP,h67,Wh,eqF h1,gG]
end Go.D
end
/- Equations of functions 5, 9, printed by gen.py. -/
section
set_option linter.unusedVariables false
set_option maxRecDepth 10000
namespace Go.D
open Go.Proofs
noncomputable section
variable (G:Qe) (lo:Nat) {σ:Qa} {r:DV×Qa}
open _root_.Go.D.Code (fstC sndC)
open _root_.Go.D.Ann (left right)
def c9_0:Code:=Qs Tryz.f9
def a9_0:Ann:=(pol 9).ann
def F9 (σ:Qa):RS:=
 Qm G PP (pol 9) CC lo c9_0 a9_0 (zn 118 []) σ (finR PP Tryz.f9.results.toList)
theorem F9_eq (G:Qe) (lo:Nat) (σ:Qa):F9 G lo σ =
 (Qg CC (DV.fn 46 []) [] σ).bind fun ah=>
 (Qg CC (DV.fn 47 []) [] σ).bind fun R=>
 (Qg CC (DV.fn 12 []) [ah,R] σ).bind fun af=>
 (Qj af 0).bind fun b8=>
 (Qj af 1).bind fun Q=>
 (Qx PP 33).bind fun z1=>
 (store PP lo 33 (DV.ptr (List.length σ) 0) b8 (σ++[Row.mix z1])).bind fun σ1=>
 (Qg CC (DV.fn 46 []) [] σ1).bind fun o=>
 (Qg CC (DV.fn 47 []) [] σ1).bind fun z=>
 (buildSlice PP none 22 4 [(0,I0),(1,I1),(2,I0),(3,I1)] σ1).bind fun r24_2=>
 (Qg CC (DV.fn 15 []) [o,z,r24_2.1] r24_2.2).bind fun A=>
 (Qj A 0).bind fun ac=>
 (Qj A 1).bind fun U=>
 (Qd CC lo (DV.fn 48 []) [] r24_2.2).bind fun r28_3=>
 (Qx PP 74).bind fun z5=>
 (store PP lo 74 (DV.ptr (List.length r28_3.2) 0) r28_3.1 (r28_3.2++[Row.mix z5])).bind fun σ4=>
 (fieldAddr PP 74 (DV.ptr (List.length r28_3.2) 0) 1).bind fun S=>
 (load PP 72 S σ4).bind fun aw=>
 (fieldAddr PP 74 (DV.ptr (List.length r28_3.2) 0) 1).bind fun B=>
 (load PP 72 B σ4).bind fun I=>
 (indexAddr PP 72 I I0).bind fun ae=>
 (load PP 26 ae σ4).bind fun V=>
 (Zy PP 26 V none (some I1) none).bind fun ai=>
 (indexAddr PP 72 aw I0).bind fun aj=>
 (store PP lo 26 aj ai σ4).bind fun σ5=>
 (Qg CC (DV.fn 46 []) [] σ5).bind fun Y=>
 (load PP 74 (DV.ptr (List.length r28_3.2) 0) σ5).bind fun L=>
 (Qg CC (DV.fn 39 []) [Y,L] σ5).bind fun C=>
 (Qj C 0).bind fun x=>
 (Qj C 1).bind fun y=>
 (Qj C 2).bind fun X=>
 (Qg CC (DV.fn 46 []) [] σ5).bind fun N=>
 (Qg CC (DV.fn 49 []) [] σ5).bind fun t=>
 (buildSlice PP none 22 2 [(0,I0),(1,I1)] σ5).bind fun r47_6=>
 (Qg CC (DV.fn 27 []) [N,t,r47_6.1] r47_6.2).bind fun E=>
 (Qj E 0).bind fun ak=>
 (Qj E 1).bind fun ar=>
 (Qg CC (DV.fn 46 []) [] r47_6.2).bind fun T=>
 (Qg CC (DV.fn 49 []) [] r47_6.2).bind fun W=>
 (Qg CC (DV.fn 25 []) [T,W] r47_6.2).bind fun aa=>
 (Qj aa 0).bind fun b9=>
 (Qj aa 1).bind fun be=>
 (Qx PP 33).bind fun z11=>
 (store PP lo 33 (DV.ptr (List.length r47_6.2) 0) b9 (r47_6.2++[Row.mix z11])).bind fun σ7=>
 (binOp PP .neq 34 Q I0).bind fun av=>
 G _ av false (some (U,σ7)) σ7 fun bb σ8=>
 Gp G av false (binOp PP .neq 34 bb I0) σ8 fun bh σ9=>
 (Qt av (DV.p (PV.bool true)) bh).bind fun bm=>
 G _ bm false (some (X,σ9)) σ9 fun bj σ10=>
 Gp G bm false (binOp PP .neq 34 bj (DV.p (PV.int IntKind.i64 (31)))) σ10 fun bu σ11=>
 (Qt bm (DV.p (PV.bool true)) bu).bind fun bg=>
 G _ bg false (some (ar,σ11)) σ11 fun cm σ12=>
 Gp G bg false (binOp PP .neq 34 cm I0) σ12 fun dc σ13=>
 (Qt bg (DV.p (PV.bool true)) dc).bind fun br=>
 G _ br false (some (be,σ13)) σ13 fun cz σ14=>
 Gp G br false (binOp PP .neq 34 cz I0) σ14 fun cc σ15=>
 (Qt br (DV.p (PV.bool true)) cc).bind fun M=>
 Qh M
 (
 some ((DV.p (PV.bool false)),σ15)
 )
 (
 (load PP 33 (DV.ptr (List.length r47_6.2) 0) σ15).bind fun ca=>
 (buildSlice PP none 22 3 [(0,I0),(1,(DV.p (PV.int IntKind.i64 (2)))),(2,I1)] σ15).bind fun r77_16=>
 (Qg CC (DV.fn 31 []) [ca,r77_16.1] r77_16.2).bind fun bz=>
 (Qj bz 0).bind fun bv=>
 (Qj bz 1).bind fun c7=>
 (fieldAddr PP 33 (DV.ptr (List.length σ) 0) 1).bind fun cw=>
 (load PP 22 cw r77_16.2).bind fun n=>
 (buildSlice PP none 22 5 [(0,I0),(1,I0),(2,I0),(3,I1),(4,I1)] r77_16.2).bind fun r83_17=>
 (Qg CC (DV.fn 34 []) [n,r83_17.1] r83_17.2).bind fun bk=>
 Gp G bk true (fieldAddr PP 33 (DV.ptr (List.length σ) 0) 2) r83_17.2 fun bn σ18=>
 Gp G bk true (load PP 22 bn σ18) σ18 fun bw σ19=>
 G _ bk true ((buildSlice PP none 22 5 [(0,I0),(1,I1),(2,(DV.p (PV.int IntKind.i64 (2)))),(3,I1),(4,(DV.p (PV.int IntKind.i64 (2))))] σ19).bind fun r=>some (r.1,r.2)) σ19 fun cn σ20=>
 Gp G bk true (Qg CC (DV.fn 34 []) [bw,cn] σ20) σ20 fun ch σ21=>
 (Qt bk ch (DV.p (PV.bool false))).bind fun co=>
 G _ co true (some (ac,σ21)) σ21 fun ci σ22=>
 G _ co true ((buildSlice PP none 22 4 [(0,I0),(1,(DV.p (PV.int IntKind.i64 (3)))),(2,I1),(3,(DV.p (PV.int IntKind.i64 (4))))] σ22).bind fun r=>some (r.1,r.2)) σ22 fun ce σ23=>
 Gp G co true (Qg CC (DV.fn 34 []) [ci,ce] σ23) σ23 fun cb σ24=>
 (Qt co cb (DV.p (PV.bool false))).bind fun cj=>
 G _ cj true (some (x,σ24)) σ24 fun cd σ25=>
 Gp G cj true (binOp PP .eql 3 cd I0) σ25 fun dh σ26=>
 (Qt cj dh (DV.p (PV.bool false))).bind fun df=>
 G _ df true (some (y,σ26)) σ26 fun dl σ27=>
 Gp G df true (binOp PP .eql 3 dl I1) σ27 fun ei σ28=>
 (Qt df ei (DV.p (PV.bool false))).bind fun dt=>
 G _ dt true (some (ak,σ28)) σ28 fun dm σ29=>
 G _ dt true ((buildSlice PP none 22 4 [(0,I0),(1,(DV.p (PV.int IntKind.i64 (2)))),(2,I1),(3,(DV.p (PV.int IntKind.i64 (3))))] σ29).bind fun r=>some (r.1,r.2)) σ29 fun ej σ30=>
 Gp G dt true (Qg CC (DV.fn 34 []) [dm,ej] σ30) σ30 fun dk σ31=>
 (Qt dt dk (DV.p (PV.bool false))).bind fun dj=>
 G _ dj true (some (c7,σ31)) σ31 fun dd σ32=>
 Gp G dj true (binOp PP .eql 34 dd I0) σ32 fun dx σ33=>
 (Qt dj dx (DV.p (PV.bool false))).bind fun am=>
 G _ am true (some (bv,σ33)) σ33 fun ek σ34=>
 G _ am true ((buildSlice PP none 22 1 [(0,I0)] σ34).bind fun r=>some (r.1,r.2)) σ34 fun du σ35=>
 Gp G am true (Qg CC (DV.fn 34 []) [ek,du] σ35) σ35 fun di σ36=>
 (Qt am di (DV.p (PV.bool false))).bind fun cp=>
 some (cp,σ36)
 ):=by kernel_rfl
theorem F9_call {lo:Nat} (h:F9 Qb lo σ=some r):CC lo 9 [] σ=some r:=
 callL_run Tryz.func9 (by decide +kernel) rfl (by decide +kernel) h
end
end Go.D
end
/- AuxiliaryHides: what the law answers, if awake answers true. -/
section
set_option linter.unusedVariables false
set_option linter.unusedSimpArgs false
namespace Go.D
section
variable {x : Ax} {o : OI} (hs : XSm x) (hp : (L o).length <= 1000) (hin : InB x (L o))
include hs hp hin
end
def ownX (x:Ax):Ax:=⟨ownG x.g,some (L x.b),some (L x.a)⟩
theorem xsm_own {x:Ax} (h:XSm x):XSm (ownX x):=⟨h.i,h.e,h.b,h.a⟩
theorem bld33c (a b c d e:PV):build PP 33 [(0,.agg [.p a,.p b,.p c]),(1,.p d),(2,.p e)]=some (.agg [.p a,.p b,.p c,.p d,.p e]):=Eq.trans (by kernel_rfl) rfl
theorem WA (P:Program) (t:TypeId) (r off:Nat) (σ:Qa):Vy P t (.ptr r off) σ=load P t (.ptr r off) σ:=rfl
theorem thaw_p (n:Nat) (σ:Qa) (v:PV):thaw n σ (.p v)=some (.p (Zs v)):=rfl
theorem st33 (a b c d e:PV) (a' b' c' d' e':DV) (m:Row):store PP 0 33 (.ptr 1 0) (.agg [.p a,.p b,.p c,.p d,.p e]) [m,.mix [a',b',c',d',e']]=some [m,.mix [.p a,.p b,.p c,.p d,.p e]]:=Eq.trans (by kernel_rfl) rfl
theorem S32 {x:Ax} {σ:Qa} (h:XSm x):Qv CC 32 [.agg (eAx x)] σ=some (.agg (eAx (ownX x))):=by
 have hst:store PP 0 33 (.ptr 1 0) (.agg (eAx (ownX x))) [Row.mix (eAx x),Row.mix [.p (pI 0),.p .nilsl,.p .nilsl,.p .nilsl,.p .nilsl]]=some [Row.mix (eAx x),Row.mix (eAx (ownX x))]:=by
  exact st33 _ _ _ _ _ _ _ _ _ _ _
 have g0:([Row.mix (eAx x),Row.mix [.p (pI 0),.p .nilsl,.p .nilsl,.p .nilsl,.p .nilsl]]:Qa)[0]?=some (.mix (eAx x)):=rfl
 have g1:([Row.mix (eAx x),Row.mix (eAx (ownX x))]:Qa)[1]?=some (.mix (eAx (ownX x))):=rfl
 have hcv:Vy PP 33 (.ptr 1 0) [Row.mix (eAx x),Row.mix (eAx (ownX x))]=some (.agg (eAx (ownX x))):=by
  rw [WA]
  exact VE g1
 have hth:Ze 0 [Row.mix (eAx x),Row.mix (eAx (ownX x))] (.agg (eAx (ownX x)))=some (.agg (eAx (ownX x))):=by
  have h1:∀ (n:Nat) (σ:Qa) (o:OI),thaw n σ (.p (eSl o))=some (.p (eSl o)):=fun n σ o=>(thaw_p n σ _).trans (by rw [ZO])
  have h2:∀ (n:Nat) (σ:Qa) (o:Option (List Edg)),thaw n σ (.p (eEs o))=some (.p (eEs o)):=fun n σ o=>(thaw_p n σ _).trans (by rw [WU])
  have h4:∀ (n:Nat) (σ:Qa) (v:Int),thaw n σ (.p (pI v))=some (.p (pI v)):=fun n σ v=>rfl
  show (mapO (thaw 0 [Row.mix (eAx x),Row.mix (eAx (ownX x))]) (eAx (ownX x))).map DV.agg=_
  simp only [eAx,mapO,h1,h2,h4,Option.map_some]
 refine Qk (by simp [WZ]) rfl (F32_call (r:=(.agg (eAx (ownX x)),[Row.mix (eAx x),Row.mix (eAx (ownX x))])) ?_) hth
 have hb:build PP 33 [(0,.agg (eGr (ownG x.g))),(1,.p (eSl (some (L x.b)))),(2,.p (eSl (some (L x.a))))]=some (.agg (eAx (ownX x))):=bld33c _ _ _ _ _
 rw [F32_eq]
 simp only [Ua,Ut,gG,List.length_nil,List.nil_append,List.length_cons,List.cons_append,Nat.reduceAdd,Wq,Wi,Vd,gP,ax_g g0,ax_b g0,ax_a g0,S13 h.i h.e,S16 h.b,S16 h.a,hb,hst,hcv]
end Go.D
end
/- Chapter 22: the moves of a history variable. -/
section
set_option linter.unusedVariables false
set_option linter.unusedSimpArgs false
namespace Go.D.StS
open Go.D.Srt
structure Hs where
 s:OI
 x:Option (List OI)
def eLs:Option (List OI)->PV
 | none=>.nilsl
 | some l=>.sl false l.length (l.map eSl)
def eHs (h:Hs):List DV:=[.p (eSl h.s),.p (eLs h.x)]
def frN (l:List Edg) (s:Int) (i:Nat):List Nat:=(List.range i).filter fun j=>decide ((gE l j).f=s)
theorem frN_succ (l:List Edg) (s:Int) (i:Nat):frN l s (i+1)=if (gE l i).f=s then frN l s i++[i] else frN l s i:=by
 unfold frN
 rw [List.range_succ,List.filter_append]
 by_cases h:(gE l i).f=s
 ·rw [if_pos h,List.filter_cons_of_pos (by simpa using h)]; rfl
 ·rw [if_neg h,List.filter_cons_of_neg (by simpa using h)]; simp
def intL (l:List Nat):List Int:=l.map fun (j:Nat)=>(j:Int)
theorem intL_len (l:List Nat):(intL l).length=l.length:=by simp [intL]
theorem frN_len (l:List Edg) (s:Int) (i:Nat):(frN l s i).length<=i:=by
 unfold frN
 exact Nat.le_trans (List.length_filter_le _ _) (by simp)
theorem stN69 {σ:Qa} (e:Edg) {lo:Nat} (hlo:lo<=σ.length):store PP lo 69 (.ptr σ.length 0) (.agg (edgD e)) (σ++[.mix [.p (pI 0),.p (pI 0),.p (pI 0)]])=some (σ++[.mix (edgD e)]):=by
 have e1:(DV.agg (edgD e)).cells=edgD e:=rfl
 have e2:(σ++[Row.mix [.p (pI 0),.p (pI 0),.p (pI 0)]])[σ.length]?=some (.mix [.p (pI 0),.p (pI 0),.p (pI 0)]):=QB
 have e3:QS [DV.p (pI 0),.p (pI 0),.p (pI 0)] 0 (edgD e)=edgD e:=rfl
 have e4:(edgD e).length=3:=rfl
 have e5:(edgD e).all DV.one=true:=rfl
 simp only [store,s69,e1,e4,if_true,Zo,hlo,e2,e5,e3]
 rw [List.set_append_right _ _ (Nat.le_refl _),Nat.sub_self]
 rfl
theorem ld69 {l:List Edg} {i:Nat} (h:i<l.length) (σ:Qa):(Wl σ 3 (.pptr (Zd l) (i*3))).map DV.agg=some (.agg (edgD (gE l i))):=by
 rw [load69_edgs h,Vw h]; rfl
section
variable {o : OE} {s : Int}
theorem L84 (hl:(L o).length<=1000):∀ (d i:Nat) (y:DV) (σ:Qa),(L o).length-i=d->i<=(L o).length->Out σ 0 1 (frN (L o) s i).length (Qr (intL (frN (L o) s i))) y->
  ∃ y' σ',f84_L0 Qb 0 (.p (pI s)) y (.p (eEs o)) (N (L o).length) (N i) σ=some (y',σ')/\Out σ' 0 1 (frN (L o) s (L o).length).length (Qr (intL (frN (L o) s (L o).length))) y'
 | 0,i,y,σ,hd,hi,ho=>by
  have e:i=(L o).length:=by omega
  subst e
  refine ⟨y,σ,?_,ho⟩
  rw [f84_L0_eq Qb rfl]
  simp (disch:=omega) only [N,Qn,ltF,gG]
 | d+1,i,y,σ,hd,hi,ho=>by
  have hil:i<(L o).length:=by omega
  have hsn:=stN69 (lo:=0) (σ:=σ) (gE (L o) i) (Nat.zero_le _)
  have hB:(σ++[Row.mix (edgD (gE (L o) i))])[σ.length]?=some (.mix (edgD (gE (L o) i))):=QB
  have ho1:=Out.snocM ho (.mix (edgD (gE (L o) i)))
  have hfl:=frN_len (L o) s i
  by_cases hf:(gE (L o) i).f=s
  ·obtain ⟨y1,σ1,p1,p2,p3,p4⟩:=Out.pushG (lo:=0) (vs:=[pI (i:Nat)]) UI u22 s3 VO Uy rfl (by decide) (by decide) (by decide) rfl ho1 (by omega) (Nat.zero_le _) (Nat.zero_le _)
   have e1:frN (L o) s (i+1)=frN (L o) s i++[i]:=by rw [frN_succ,if_pos hf]
   have e2:Qr (intL (frN (L o) s i))++[pI (i:Nat)]=Qr (intL (frN (L o) s (i+1))):=by rw [e1]; simp [intL,Qr]
   have e3:(frN (L o) s i).length+1=(frN (L o) s (i+1)).length:=by rw [e1]; simp
   rw [e2,e3] at p2
   obtain ⟨y',σ',r1,r2⟩:=L84 hl d (i+1) y1 σ1 (by omega) (by omega) p2
   refine ⟨y',σ',?_,r2⟩
   rw [<-r1,f84_L0_eq Qb rfl]
   simp (disch:=omega) only [N,Qn,ltT,gG,Uq,UC,ld69,Us,hsn,VY,gP,QF,Qc (off:=0) hB (v:=.p (.int .i64 (gE (L o) i).f)) rfl,QV,eqT hf,Vs,p1,f84_J0_eq,add1]
  ·have e1:frN (L o) s (i+1)=frN (L o) s i:=by rw [frN_succ,if_neg hf]
   obtain ⟨y',σ',r1,r2⟩:=L84 hl d (i+1) y _ (by omega) (by omega) (by rw [e1]; exact ho1)
   refine ⟨y',σ',?_,r2⟩
   rw [<-r1,f84_L0_eq Qb rfl]
   simp (disch:=omega) only [N,Qn,ltT,gG,Uq,UC,ld69,Us,hsn,VY,gP,QF,Qc (off:=0) hB (v:=.p (.int .i64 (gE (L o) i).f)) rfl,QV,eqF hf,f84_J0_eq,add1]
end
theorem twAll_oI {σ σ':Qa} {lo m:Nat} {l:List Int} {y:DV} (h:Out σ lo 1 l.length (Qr l) y):Ze m σ' y=some (.p (eSl (oI l))):=by
 have h2:Ze m σ y=some (.p (eSl (oI l))):=by
  rw [Out.twAll h m,Zu]
  unfold oI
  by_cases e:l=[]
  ·subst e; rfl
  ·rw [if_neg e,if_neg (fun h=>e (List.length_eq_zero_iff.1 h))]; rfl
 rcases h.2 with ⟨_,rfl⟩ | ⟨_,r,ver,rfl,_,_⟩
 ·exact h2
 ·exact h2
theorem S84 {g:Gr} {s:Int} {σ:Qa} (hl:(L g.edges).length<=1000):Qv CC 84 [.agg (eGr g),.p (pI s)] σ=some (.p (eSl (oI (intL (frN (L g.edges) s (L g.edges).length))))):=by
 have g0:([Row.mix (eGr g)]:Qa)[0]?=some (.mix (eGr g)):=rfl
 obtain ⟨y,σ',e1,o1⟩:=L84 (s:=s) hl _ 0 (.p .nilsl) [Row.mix (eGr g)] rfl (Nat.zero_le _) Out.zero
 refine Qk (by simp [view,Zw,eGr,ZO,WU,Zs]) rfl (F84_call (r:=(y,σ')) ?_) (twAll_oI (by rw [intL_len]; exact o1))
 have hb:boxV (.agg (eGr g))=some (eGr g):=rfl
 rw [F84_eq]
 simp only [hb,gG,List.length_nil,List.nil_append,Zg,gP,Zc,Qc (off:=2) g0 rfl,Ww]
 exact e1
def mvE (g:Gr) (h:Hs) (x:E) (j:Nat):Edg:=⟨(gE (L g.edges) j).t,(L ((L h.x).getD j none)).getD x.2.toNat 0,(gE (L g.edges) j).a⟩
def mvH (g:Gr) (h:Hs) (x:E):List Edg:=(frN (L g.edges) x.1 (L g.edges).length).map (mvE g h x)
def oE (l:List Edg):OE:=if l=[] then none else some l
theorem L_oE (l:List Edg):L (oE l)=l:=by
 unfold oE
 by_cases h:l=[]
 ·subst h; rfl
 ·rw [if_neg h]; rfl
theorem bytes141:bytes? PP 141=some 24:=Eq.trans (by kernel_rfl) rfl
theorem src138:ZQ PP 138=true:=Eq.trans (by kernel_rfl) rfl
theorem Uw (x y:Int):build PP 102 [(0,.p (.int .i64 x)),(1,.p (.int .i64 y))]=some (val (x,y)):=Eq.trans (by kernel_rfl) rfl
theorem bld141 (x y z:Int):build PP 141 [(0,val (x,y)),(1,.p (.int .i64 z))]=some (.agg (edgD ⟨x,y,z⟩)):=Eq.trans (by kernel_rfl) rfl
theorem bs138 (e:Edg) (σ:Qa):buildSlice PP none 138 1 [(0,.agg (edgD e))] σ=some (.p (.sl true 1 (eEdg e)),σ):=Eq.trans (by kernel_rfl) rfl
theorem eEdgs_snoc (l:List Edg) (v:Edg):Zd l++eEdg v=Zd (l++[v]):=by
 induction l with
 | nil=>simp [Zd,eEdg]
 | cons a l ih=>simp only [List.cons_append,Zd,List.append_assoc,ih]
theorem ldEt {l:List Edg} {j:Nat} (h:j<l.length) (σ:Qa):ZX (.pptr (Zd l) (j*3+1)) σ=some (.p (.int .i64 (gE l j).t)):=by
 rw [Vw h]; exact load1_pptr (edgs_get l j h).2.1 σ
theorem ldEa {l:List Edg} {j:Nat} (h:j<l.length) (σ:Qa):ZX (.pptr (Zd l) (j*3+2)) σ=some (.p (.int .i64 (gE l j).a)):=by
 rw [Vw h]; exact load1_pptr (edgs_get l j h).2.2 σ
theorem ldEf {l:List Edg} {j:Nat} (h:j<l.length) (σ:Qa):ZX (.pptr (Zd l) (j*3)) σ=some (.p (.int .i64 (gE l j).f)):=by
 rw [Vw h]; exact load1_pptr (edgs_get l j h).1 σ
section
variable {g : Gr} {h : Hs} {x : E} {fr : List Nat} {B g0 h0 b : Nat}
end
theorem twAll_oE {σ σ':Qa} {lo m:Nat} {l:List Edg} {y:DV} (h:Out σ lo 3 l.length (Zd l) y):Ze m σ' y=some (.p (eEs (oE l))):=by
 have h2:Ze m σ y=some (.p (eEs (oE l))):=by
  rw [Out.twAll h m,loosens_edgs]
  unfold oE
  by_cases e:l=[]
  ·subst e; rfl
  ·rw [if_neg e,if_neg (fun h=>e (List.length_eq_zero_iff.1 h))]; rfl
 rcases h.2 with ⟨_,rfl⟩ | ⟨_,r,ver,rfl,_,_⟩
 ·exact h2
 ·exact h2
end Go.D.StS
end
/- Chapter 22: graphs and history variables as arguments. -/
section
set_option linter.unusedVariables false
set_option maxRecDepth 100000
namespace Go.D
open Go.ChangeShapes Go.WideShapes Go.ChangeAt Go.RowKit
open Go.D.StS (Hs eHs eLs)
section
variable {H : Type} {enc : TypeId × Value -> H} {W : World} {hd : Bool} {r : Reach} {b0 : Nat} {v : Value} {d : DataW H} {ps : List MemPlace}
theorem read_gr (hok:Value.okWide PP W r b0 25 v) (h:DataW.Trod enc PP W 0 (fun _=>true) hd 25 v d ps):∃ g:Gr,VRel (fun _ _=>none) (memOf W) (.agg (eGr g)) v:=by
 obtain ⟨c,h1,h2⟩:=read_struct 8 Go.Proofs.Tryz.underlying25 (by kernel_rfl) hok h
 obtain ⟨g,rfl⟩:=dec25 h1
 exact ⟨g,h2⟩
end
end Go.D
end
/- Chapter 22: right graphs, what is reached, and the raw steps, in plain terms. -/
section
set_option linter.unusedVariables false
set_option linter.unusedSimpArgs false
namespace Go.D.StS
open Go.D.Srt
theorem adj_pair {α:Type} {R:α->α->Prop} (ht:∀ x y z,R x y->R y z->R x z):∀ {l:List α},(∀ i (h:i+1<l.length),R l[i] l[i+1])->l.Pairwise R
 | [],_=>List.Pairwise.nil
 | [x],_=>by simp
 | x::y::l,h=>by
  have ih:(y::l).Pairwise R:=adj_pair ht fun i hi=>h (i+1) (by simpa using hi)
  have h0:R x y:=h 0 (by simp)
  rw [List.pairwise_cons]
  refine ⟨fun z hz=>?_,ih⟩
  rcases List.mem_cons.1 hz with rfl | hz
  ·exact h0
  ·rw [List.pairwise_cons] at ih
   exact ht _ _ _ h0 (ih.1 z hz)
structure GOk (g:Gr):Prop where
 n0:0<=g.n/\g.n<=400
 e0:(L g.edges).length<=2000
 il:∀ s∈L g.init,0<=s/\s<g.n
 ip:(L g.init).Pairwise (· < ·)
 el:∀ e∈L g.edges,(0<=e.f/\e.f<g.n)/\(0<=e.t/\e.t<g.n)/\(0<=e.a/\e.a<=11)
 ep:(L g.edges).Pairwise fun x y=>ordE x y<0
theorem WJ (n a b:Int):inR n a b=true↔a<=n/\n<=b:=by
 unfold inR
 rw [Bool.and_eq_true,decide_eq_true_iff,decide_eq_true_iff]
theorem ordE_trans (x y z:Edg) (h1:ordE x y<0) (h2:ordE y z<0):ordE x z<0:=by
 rw [StT.ordE_lt] at *; omega
theorem isG_iff (g:Gr):isG g=true↔GOk g:=by
 have hp:inR g.n 0 400=true->pred g.n=g.n-1:=fun h=>by
  rw [WJ] at h
  exact QE (by omega) (by omega)
 unfold isG
 simp only [Bool.and_eq_true,decide_eq_true_iff,allFrom_iff]
 constructor
 ·rintro ⟨⟨⟨h1,h2⟩,h3⟩,h4⟩
  have hpn:=hp h1
  rw [WJ] at h1
  have qi:∀ i (h:i<(L g.init).length),(L g.init).getD i 0=(L g.init)[i]:=fun i h=>Zp 0 h
  have qe:∀ i (h:i<(L g.edges).length),(L g.edges).getD i default=(L g.edges)[i]:=fun i h=>Zp default h
  refine ⟨h1,h2,fun s hs=>?_,?_,fun e he=>?_,?_⟩
  ·obtain ⟨i,hi,rfl⟩:=List.getElem_of_mem hs
   have:=h3 i (Nat.zero_le _) (by omega)
   unfold okI at this
   rw [Bool.and_eq_true,WJ,hpn,qi i hi] at this
   omega
  ·refine adj_pair (fun x y z h1 h2=>by omega) fun i hi=>?_
   have:=h3 (i+1) (Nat.zero_le _) (by omega)
   unfold okI at this
   simp only [Bool.and_eq_true,Bool.or_eq_true,decide_eq_true_iff,Nat.add_sub_cancel] at this
   rw [qi (i+1) hi,qi i (by omega)] at this
   rcases this.2 with h | h
   ·omega
   ·exact h
  ·obtain ⟨i,hi,rfl⟩:=List.getElem_of_mem he
   have:=h4 i (Nat.zero_le _) (by omega)
   unfold okE at this
   simp only [Bool.and_eq_true,WJ,hpn] at this
   rw [qe i hi] at this
   obtain ⟨w1,w2,w3,_⟩:=this
   exact ⟨⟨w1.1,by omega⟩,⟨w2.1,by omega⟩,w3⟩
  ·refine adj_pair ordE_trans fun i hi=>?_
   have:=h4 (i+1) (Nat.zero_le _) (by omega)
   unfold okE at this
   simp only [Bool.and_eq_true,Bool.or_eq_true,decide_eq_true_iff,Nat.add_sub_cancel] at this
   rw [qe (i+1) hi,qe i (by omega)] at this
   rcases this.2.2.2 with h | h
   ·omega
   ·exact h
 ·intro h
  have h1:=(WJ g.n 0 400).2 h.n0
  have hpn:=hp h1
  refine ⟨⟨⟨h1,h.e0⟩,fun j _ hj=>?_⟩,fun j _ hj=>?_⟩
  ·have hj':j<(L g.init).length:=by omega
   unfold okI
   rw [Bool.and_eq_true,WJ,hpn,Zp 0 hj']
   have:=h.il _ (List.getElem_mem hj')
   refine ⟨by omega,?_⟩
   rw [Bool.or_eq_true,decide_eq_true_iff,decide_eq_true_iff]
   by_cases e:j=0
   ·exact .inl e
   ·refine .inr ?_
    rw [Zp 0 (show j-1<(L g.init).length by omega)]
    exact List.pairwise_iff_getElem.1 h.ip (j-1) j (by omega) hj' (by omega)
  ·have hj':j<(L g.edges).length:=by omega
   unfold okE
   simp only [Bool.and_eq_true,WJ,hpn,Zp default hj']
   have:=h.el _ (List.getElem_mem hj')
   refine ⟨by omega,by omega,by omega,?_⟩
   rw [Bool.or_eq_true,decide_eq_true_iff,decide_eq_true_iff]
   by_cases e:j=0
   ·exact .inl e
   ·refine .inr ?_
    rw [Zp default (show j-1<(L g.edges).length by omega)]
    exact List.pairwise_iff_getElem.1 h.ep (j-1) j (by omega) hj' (by omega)
theorem Wt (A l:List E) (x:E):x∈Zk A l↔x∈A\/x∈l:=by
 induction l generalizing A with
 | nil=>simp [Zk]
 | cons y l ih=>
  unfold Zk
  rw [ih]
  by_cases h:A.contains y=true
  ·rw [if_pos h,List.mem_cons]
   constructor
   ·rintro (h | h)
    ·exact .inl h
    ·exact .inr (.inr h)
   ·rintro (h2 | rfl | h2)
    ·exact .inl h2
    ·exact .inl (List.contains_iff_mem.1 h)
    ·exact .inr h2
  ·rw [if_neg h,List.mem_append,List.mem_singleton,List.mem_cons,or_assoc]
theorem addAll_nodup (A l:List E) (h:A.Nodup):(Zk A l).Nodup:=by
 induction l generalizing A with
 | nil=>exact h
 | cons y l ih=>
  unfold Zk
  by_cases hc:A.contains y=true
  ·rw [if_pos hc]; exact ih A h
  ·rw [if_neg hc]
   refine ih _ ?_
   rw [List.nodup_append]
   refine ⟨h,by simp,fun u hu v hv e=>hc ?_⟩
   rw [List.mem_singleton] at hv
   subst hv
   subst e
   exact List.contains_iff_mem.2 hu
theorem addAll_pre (A l:List E):A <+: Zk A l:=by
 induction l generalizing A with
 | nil=>exact List.prefix_refl A
 | cons y l ih=>
  unfold Zk
  split
  ·exact ih A
  ·exact (List.prefix_append A _).trans (ih _)
def InS (n:Int) (x:E):Prop:=(0<=x.1/\x.1<n)/\(0<=x.2/\x.2<=7)
structure IG (n:Int) (A:List E):Prop where
 nd:A.Nodup
 ir:∀ x∈A,InS n x
theorem nodup_le {α:Type} [DecidableEq α]:∀ {l u:List α},l.Nodup->(∀ x∈l,x∈u)->l.length<=u.length
 | [],u,_,_=>Nat.zero_le _
 | a::l,u,hn,h=>by
  have ha:=h a (by simp)
  rw [List.nodup_cons] at hn
  have ih:=nodup_le (l:=l) (u:=u.erase a) hn.2 fun x hx=>by
   have hne:x≠a:=fun e=>hn.1 (e ▸ hx)
   exact (List.mem_erase_of_ne hne).2 (h x (by simp [hx]))
  have h1:=List.length_erase_of_mem ha
  have h2:0<u.length:=List.length_pos_of_mem ha
  simp only [List.length_cons]
  omega
theorem IG.len {n:Int} {A:List E} (h:IG n A) (hn:n<=8):A.length<=64:=by
 have h1:(A.map fun x:E=>x.1*8+x.2).Nodup:=by
  rw [List.nodup_iff_pairwise_ne,List.pairwise_map]
  have h0:=h.nd
  rw [List.nodup_iff_pairwise_ne] at h0
  refine List.Pairwise.imp_of_mem (fun {x y} hx hy h1 e=>h1 ?_) h0
  have a:=h.ir x hx
  have b:=h.ir y hy
  unfold InS at a b
  exact Prod.ext (by omega) (by omega)
 have h2:=nodup_le (u:=(List.range 64).map fun (k:Nat)=>(k:Int)) h1 fun v hv=>by
  rw [List.mem_map] at hv
  obtain ⟨x,hx,rfl⟩:=hv
  have a:=h.ir x hx
  unfold InS at a
  rw [List.mem_map]
  exact ⟨(x.1*8+x.2).toNat,by rw [List.mem_range]; omega,by omega⟩
 simpa using h2
theorem ge_pre {A C:List E} (hp:A <+: C) {j:Nat} (hj:j<A.length):ge C j=ge A j:=by
 obtain ⟨t,ht⟩:=hp
 rw [<-ht]
 unfold ge
 rw [List.getD_eq_getElem?_getD,List.getElem?_append_left hj,<-List.getD_eq_getElem?_getD]
theorem groM_closed {M:E->OE} {K:Nat} {I:List E->Prop} (hN:∀ A,I A->A.length<=K) (hI:∀ A x,I A->x∈A->I (Zk A ((L (M x)).map toE))):∀ (d i:Nat) (A:List E),I A->K-i<=d->(∀ j,j<i->j<A.length->∀ e∈L (M (ge A j)),toE e∈A)->
  I (groM M d i A)/\A <+: groM M d i A/\∀ x∈groM M d i A,∀ e∈L (M x),toE e∈groM M d i A
 | 0,i,A,h,hd,hj=>by
  have h1:=hN A h
  refine ⟨h,List.prefix_refl _,fun x (hx:x∈A) e he=>?_⟩
  obtain ⟨k,hk,rfl⟩:=List.getElem_of_mem hx
  have:=hj k (by omega) hk e
  rw [Zi hk] at this
  exact this he
 | d+1,i,A,h,hd,hj=>by
  unfold groM
  by_cases hlt:i<A.length
  ·rw [if_pos hlt]
   have hp:=addAll_pre A ((L (M (ge A i))).map toE)
   obtain ⟨r1,r2,r3⟩:=groM_closed hN hI d (i+1) _ (hI A (ge A i) h (by rw [Zi hlt]; exact List.getElem_mem hlt)) (by omega) fun j hji hjl e he=>by
    have hjA:j<A.length:=by omega
    rw [ge_pre hp hjA] at he
    rw [Wt]
    by_cases e1:j=i
    ·subst e1; exact .inr (List.mem_map.2 ⟨e,he,rfl⟩)
    ·exact .inl (hj j (by omega) hjA e he)
   exact ⟨r1,hp.trans r2,r3⟩
  ·rw [if_neg hlt]
   refine ⟨h,List.prefix_refl _,fun x hx e he=>?_⟩
   obtain ⟨k,hk,rfl⟩:=List.getElem_of_mem hx
   have:=hj k (by omega) hk e
   rw [Zi hk] at this
   exact this he
theorem mem_rawE (M:E->OE) (B:List E) (e:Edg):∀ (l:List E) (i:Nat),e∈rawE M B i l↔∃ k,k<l.length/\∃ m∈L (M (ge l k)),e=⟨((i+k:Nat):Int),((B.idxOf (toE m):Nat):Int),m.a⟩
 | [],i=>by simp [rawE]
 | x::l,i=>by
  rw [rawE,List.mem_append,mem_rawE M B e l (i+1)]
  constructor
  ·rintro (h | ⟨k,hk,m,hm,rfl⟩)
   ·unfold rowE at h
    rw [List.mem_map] at h
    obtain ⟨m,hm,rfl⟩:=h
    exact ⟨0,by simp,m,hm,rfl⟩
   ·exact ⟨k+1,by simpa using hk,m,hm,by rw [show i+1+k=i+(k+1) by omega]⟩
  ·rintro ⟨k,hk,m,hm,rfl⟩
   cases k with
   | zero=>exact .inl (by unfold rowE; rw [List.mem_map]; exact ⟨m,hm,rfl⟩)
   | succ k=>exact .inr ⟨k,by simpa using hk,m,hm,by rw [show i+1+k=i+(k+1) by omega]⟩
theorem rawE_len {M:E->OE} {B:List E} {c:Nat}:∀ (l:List E) (i:Nat),(∀ x∈l,(L (M x)).length<=c)->(rawE M B i l).length<=c*l.length
 | [],i,_=>by simp [rawE]
 | x::l,i,h=>by
  rw [rawE,List.length_append,rowE_len,List.length_cons,Nat.mul_add,Nat.mul_one]
  have h1:=h x (by simp)
  have h2:=rawE_len (M:=M) (B:=B) l (i+1) (fun y hy=>h y (by simp [hy]))
  omega
end Go.D.StS
end
/- Chapter 22: the graph extended by a history variable. -/
section
set_option linter.unusedVariables false
set_option linter.unusedSimpArgs false
namespace Go.D.StS
open Go.D.Srt
structure HOk (g:Gr) (h:Hs):Prop where
 sl:((L h.s).length:Int)=g.n
 sv:∀ i,i<(L h.s).length->0<=(L h.s).getD i 0/\(L h.s).getD i 0<=7
 xl:(L h.x).length=(L g.edges).length
 xr:∀ j,j<(L h.x).length->(L ((L h.x).getD j none)).length=8
 xv:∀ j,j<(L h.x).length->∀ i,i<8->0<=(L ((L h.x).getD j none)).getD i 0/\(L ((L h.x).getD j none)).getD i 0<=7
theorem mem_frN {l:List Edg} {s:Int} {n j:Nat}:j∈frN l s n↔j<n/\(gE l j).f=s:=by
 unfold frN
 rw [List.mem_filter,List.mem_range,decide_eq_true_iff]
def iniH (g:Gr) (h:Hs):List E:=(L g.init).map fun s=>(s,(L h.s).getD s.toNat 0)
theorem asc_nodup {A:List E} (h:Asc A):A.Nodup:=by
 refine List.Pairwise.imp (fun {x y} h e=>?_) h
 subst e
 unfold ltB at h
 omega
theorem VB {g:Gr} (hg:GOk g):((L g.init).length:Int)<=g.n:=by
 have h1:(L g.init).Nodup:=hg.ip.imp fun {a b} h e=>by omega
 have h2:=nodup_le (u:=(List.range g.n.toNat).map fun (k:Nat)=>(k:Int)) h1 fun v hv=>by
  have a:=hg.il v hv
  rw [List.mem_map]
  exact ⟨v.toNat,by rw [List.mem_range]; omega,by omega⟩
 simp at h2
 have:=hg.n0
 omega
structure ExtG (n:Int) (M:E->OE) (l B:List E) (E':List Edg):Prop where
 asc:Asc B
 ins:∀ x∈B,InS n x
 beg:∀ x∈l,x∈B
 cl:∀ x∈B,∀ e∈L (M x),toE e∈B
 pb:B.Perm (groM M 64 0 (Zk [] l))
 pm:∀ e,e∈E'↔e∈rawE M B 0 B
 pn:E'.length<=(rawE M B 0 B).length
 po:E'.Pairwise fun a b=>ordE a b<0
theorem GR.mono {lo lo':Nat} {B:List E} {is:List Int} {E':List Edg} {ix ex bx ax:DV} {σ:Qa} (h:GR lo B is E' ix ex bx ax σ) (hl:lo'<=lo):GR lo' B is E' ix ex bx ax σ:=by
 have o:∀ {n:Nat} {cs:List PV} {x:DV},Out σ lo 1 n cs x->Out σ lo' 1 n cs x:=fun {n cs x} h=>by
  refine ⟨h.1,?_⟩
  rcases h.2 with h1 | ⟨h0,r,ver,e1,e2,e3⟩
  ·exact .inl h1
  ·exact .inr ⟨h0,r,ver,e1,e2,by omega⟩
 have q:∀ {sz n:Nat} {cs:List PV} {x:DV},RowG σ lo sz n cs x->RowG σ lo' sz n cs x:=fun {sz n cs x} h=>by
  refine ⟨h.1,?_⟩
  rcases h.2 with h1 | ⟨h0,r,e1,e2,e3⟩
  ·exact .inl h1
  ·exact .inr ⟨h0,r,e1,e2,by omega⟩
 have q3:∀ {sz n:Nat} {cs:List PV} {x:DV},StT.RowT σ lo sz n cs x->StT.RowT σ lo' sz n cs x:=fun {sz n cs x} h=>by
  refine ⟨h.1,?_⟩
  rcases h.2 with h1 | ⟨h0,r,rest,e1,e2,e3⟩
  ·exact .inl h1
  ·exact .inr ⟨h0,r,rest,e1,e2,by omega⟩
 exact ⟨o h.ob,o h.oa,q h.ri,q3 h.re⟩
theorem GR.setLow {lo q:Nat} {B:List E} {is:List Int} {E':List Edg} {ix ex bx ax:DV} {σ:Qa} (h:GR lo B is E' ix ex bx ax σ) (hq:q<lo) (row:Row):GR lo B is E' ix ex bx ax (σ.set q row):=
 ⟨Out.setLow h.ob hq row,Out.setLow h.oa hq row,h.ri.setNe hq,rowT_set h.re hq⟩
theorem GR.snoc {lo:Nat} {B:List E} {is:List Int} {E':List Edg} {ix ex bx ax:DV} {σ:Qa} (h:GR lo B is E' ix ex bx ax σ) (row:Row):GR lo B is E' ix ex bx ax (σ++[row]):=
 ⟨Out.snocM h.ob row,Out.snocM h.oa row,h.ri.snoc row,rowT_snoc h.re row⟩
theorem out_idx {σ:Qa} {lo:Nat} {l:List E} {y:DV} (h:Out σ lo 2 l.length (Vx l) y):y.one=true/\(∀ σ,len PP 134 y σ=some (N l.length))/\∀ k,k<l.length->indexAddr PP 134 y (.p (.int .i64 (k:Nat)))=some (.pptr (Vx l) (k*2)):=by
 rcases h.2 with ⟨e,rfl⟩ | ⟨h0,r,ver,rfl,_,_⟩
 ·refine ⟨rfl,fun σ=>?_,fun k hk=>by omega⟩
  rw [e]; simp [len,uL]
 ·refine ⟨rfl,fun σ=>by simp [len,uL],fun k hk=>?_⟩
  have h2:(0:Int)<=(k:Int)/\(k:Int)<(l.length:Nat):=by omega
  simp [indexAddr,uL,sE,h2]
  try omega
theorem zero137:Qx PP 137=some [.p .nilsl,.p .nilfn]:=Eq.trans (by kernel_rfl) rfl
theorem load137 (x:DV) (σ:Qa):load PP 137 x σ=(Wl σ 2 x).map .agg:=Eq.trans (by kernel_rfl) rfl
theorem s135:size? PP 135=some 1:=Eq.trans (by kernel_rfl) rfl
theorem st134_0 {σ:Qa} {q:Nat} {y c v:DV} (h:σ[q]?=some (.mix [y,c])) (hv:v.one=true) (hc:v.cells=[v]):store PP 0 134 (.ptr q 0) v σ=some (σ.set q (.mix [v,c])):=by
 have e3:QS [y,c] 0 [v]=[v,c]:=rfl
 simp [store,s134,hc,Zo,h,hv,e3]
theorem st135_1 {σ:Qa} {q:Nat} {y c v:DV} (h:σ[q]?=some (.mix [y,c])) (hv:v.one=true) (hc:v.cells=[v]):store PP 0 135 (.ptr q 1) v σ=some (σ.set q (.mix [y,v])):=by
 have e3:QS [y,c] 1 [v]=[y,v]:=rfl
 simp [store,s135,hc,Zo,h,hv,e3]
theorem Out.pushE' {σ:Qa} {B n:Nat} {A:List E} {x:DV} (ho:Out σ B 2 n (Vx A) x) (hn:n<=10000000) (hB:B<=σ.length) (e:E) :
  ∃ x' σ',append PP 0 false 134 134 x (.p (.sl true 1 (celP e))) σ=some (x',σ')/\Out σ' B 2 (n+1) (Vx (A++[e])) x'/\Others σ σ' x:=by
 obtain ⟨x',σ',h1,h2,h3,h4⟩:=Out.pushG (lo:=0) (vs:=celP e) srcB u134 sE bytesB Jd rfl (by decide) (by decide) (by decide) rfl ho hn hB (Nat.zero_le _)
 exact ⟨x',σ',h1,by rw [celsP_app]; exact h2,h3⟩
section
variable {g : Gr} {h : Hs} (hg : GOk g) (hh : HOk g h)
include hg hh
end
end Go.D.StS
end
/- Equations of functions 6, 10, 11, 14, 17, 18, 52, printed by gen.py. -/
section
set_option linter.unusedVariables false
set_option maxRecDepth 10000
namespace Go.D
open Go.Proofs
noncomputable section
variable (G:Qe) (lo:Nat) {σ:Qa} {r:DV×Qa}
open _root_.Go.D.Code (fstC sndC)
open _root_.Go.D.Ann (left right)
def c10_0:Code:=Qs Tryz.f10
def a10_0:Ann:=(pol 10).ann
def F10 (a:DV) (σ:Qa):RS:=
 Qm G PP (pol 10) CC lo c10_0 a10_0 (a::zn 34 []) σ (finR PP Tryz.f10.results.toList)
theorem F10_eq (G:Qe) (lo:Nat) (a:DV) (σ:Qa):F10 G lo a σ =
 (boxV a).bind fun z1=>
 (fieldAddr PP 25 (DV.ptr (List.length σ) 0) 0).bind fun d=>
 (load PP 3 d (σ++[Row.mix z1])).bind fun f=>
 (binOp PP .leq 3 f (DV.p (PV.int IntKind.i64 (8)))).bind fun m=>
 Gp G m false (fieldAddr PP 25 (DV.ptr (List.length σ) 0) 0) (σ++[Row.mix z1]) fun H σ1=>
 Gp G m false (load PP 3 H σ1) σ1 fun k σ2=>
 Gp G m false (binOp PP .gtr 3 k (DV.p (PV.int IntKind.i64 (30)))) σ2 fun g σ3=>
 (Qt m (DV.p (PV.bool true)) g).bind fun i=>
 Gp G i true (fieldAddr PP 25 (DV.ptr (List.length σ) 0) 1) σ3 fun l σ4=>
 Gp G i true (load PP 22 l σ4) σ4 fun q σ5=>
 Gp G i true (len PP 22 q σ5) σ5 fun w σ6=>
 Gp G i true (binOp PP .leq 3 w (DV.p (PV.int IntKind.i64 (40)))) σ6 fun F σ7=>
 (Qt i F (DV.p (PV.bool false))).bind fun ah=>
 Gp G ah true (fieldAddr PP 25 (DV.ptr (List.length σ) 0) 2) σ7 fun af σ8=>
 Gp G ah true (load PP 23 af σ8) σ8 fun b8 σ9=>
 Gp G ah true (len PP 23 b8 σ9) σ9 fun Q σ10=>
 Gp G ah true (binOp PP .leq 3 Q (DV.p (PV.int IntKind.i64 (16)))) σ10 fun u σ11=>
 G _ ah true (some (u,σ11)) σ11 fun o σ12=>
 Gp G o false (fieldAddr PP 25 (DV.ptr (List.length σ) 0) 2) σ12 fun z σ13=>
 Gp G o false (load PP 23 z σ13) σ13 fun K σ14=>
 Gp G o false (len PP 23 K σ14) σ14 fun A σ15=>
 Gp G o false (binOp PP .gtr 3 A (DV.p (PV.int IntKind.i64 (120)))) σ15 fun ac σ16=>
 G _ o false (some (ac,σ16)) σ16 fun U σ17=>
 Gp G U true (fieldAddr PP 25 (DV.ptr (List.length σ) 0) 2) σ17 fun au σ18=>
 Gp G U true (load PP 23 au σ18) σ18 fun S σ19=>
 Gp G U true (len PP 23 S σ19) σ19 fun aw σ20=>
 Gp G U true (binOp PP .leq 3 aw (DV.p (PV.int IntKind.i64 (122)))) σ20 fun B σ21=>
 Gp G o false (Qt U B (DV.p (PV.bool false))) σ21 fun I σ22=>
 Gp G ah true (Qt o (DV.p (PV.bool true)) I) σ22 fun ae σ23=>
 (Qt ah ae (DV.p (PV.bool false))).bind fun V=>
 some (V,σ23):=by kernel_rfl
theorem F10_call {lo:Nat} {a:DV} (h:F10 Qb lo a σ=some r):CC lo 10 [a] σ=some r:=
 callL_run Tryz.func10 (by decide +kernel) rfl (by decide +kernel) h
def c17_0:Code:=Qs Tryz.f17
def a17_0:Ann:=(pol 17).ann
def a17_21:Ann:=right (left (right (right (right a17_0))))
def a17_22:Ann:=left a17_21
def c17_23:Code:=fstC (fstC (sndC (fstC (sndC (sndC (sndC c17_0))))))
def c17_39:Code:=sndC (sndC (sndC (sndC c17_0)))
def a17_39:Ann:=right (right (right (right a17_0)))
def f17_L0 (b d:DV) (σ:Qa):RS:=
 Qm G PP (pol 17) CC lo (.loop c17_23) a17_22 (Z::b::Z::d::zn 26 []) σ
 (Qf 0 a17_21 (seqC G PP (pol 17) CC lo c17_39 a17_39 (finR PP Tryz.f17.results.toList)))
def F17 (a:DV) (σ:Qa):RS:=
 Qm G PP (pol 17) CC lo c17_0 a17_0 (a::zn 29 []) σ (finR PP Tryz.f17.results.toList)
theorem f17_L0_eq (G:Qe) (hG:Qo G) (lo:Nat) (b d:DV) (σ:Qa):f17_L0 G lo b d σ =
 (fieldAddr PP 25 b 2).bind fun R=>
 (load PP 23 R σ).bind fun af=>
 (len PP 23 af σ).bind fun b8=>
 (binOp PP .lss 3 d b8).bind fun Q=>
 Qh Q
 (
 (fieldAddr PP 25 b 2).bind fun z=>
 (load PP 23 z σ).bind fun K=>
 (indexAddr PP 23 K d).bind fun ac=>
 (fieldAddr PP 69 ac 2).bind fun U=>
 (load PP 3 U σ).bind fun au=>
 (binOp PP .eql 3 au (DV.p (PV.int IntKind.i64 (11)))).bind fun S=>
 Qh S
 (
 some ((DV.p (PV.int IntKind.i64 (3))),σ)
 )
 (
 (binOp PP .add 3 d I1).bind fun o=>
 f17_L0 G lo b o σ
 )
 )
 (
 some (I0,σ)
 ):=(Ql G hG).trans (by kernel_rfl)
theorem F17_eq (G:Qe) (lo:Nat) (a:DV) (σ:Qa):F17 G lo a σ =
 (boxV a).bind fun z1=>
 (load PP 25 (DV.ptr (List.length σ) 0) (σ++[Row.mix z1])).bind fun f=>
 (Qg CC (DV.fn 56 []) [f] (σ++[Row.mix z1])).bind fun m=>
 (unOp .not m).bind fun O=>
 Qh O
 (
 some ((DV.p (PV.int IntKind.i64 (5))),(σ++[Row.mix z1]))
 )
 (
 (fieldAddr PP 25 (DV.ptr (List.length σ) 0) 0).bind fun H=>
 (load PP 3 H (σ++[Row.mix z1])).bind fun k=>
 (binOp PP .gtr 3 k (DV.p (PV.int IntKind.i64 (30)))).bind fun g=>
 Gp G g false (fieldAddr PP 25 (DV.ptr (List.length σ) 0) 2) (σ++[Row.mix z1]) fun j σ1=>
 Gp G g false (load PP 23 j σ1) σ1 fun l σ2=>
 Gp G g false (len PP 23 l σ2) σ2 fun q σ3=>
 Gp G g false (binOp PP .gtr 3 q (DV.p (PV.int IntKind.i64 (120)))) σ3 fun w σ4=>
 (Qt g (DV.p (PV.bool true)) w).bind fun F=>
 Qh F
 (
 some ((DV.p (PV.int IntKind.i64 (2))),σ4)
 )
 (
 f17_L0 G lo (DV.ptr (List.length σ) 0) I0 σ4
 )
 ):=by kernel_rfl
theorem F17_call {lo:Nat} {a:DV} (h:F17 Qb lo a σ=some r):CC lo 17 [a] σ=some r:=
 callL_run Tryz.func17 (by decide +kernel) rfl (by decide +kernel) h
end
end Go.D
end
/- Chapter 22: the errors of graphs and history variables, in the program and in its reference. -/
section
set_option linter.unusedVariables false
set_option linter.unusedSimpArgs false
namespace Go.D.StS
open Go.D.Srt
def tk (e:Edg):Bool:=decide (e.a=11)
def errG (g:Gr):Int:=if isG g=true then (if g.n<=30/\(L g.edges).length<=120 then (if (L g.edges).any tk=true then 3 else 0) else 2) else 5
def rowErr (l:OI):Int:=if (L l).length=8 then (if (L l).any bA=true then 3 else 0) else 6
def rowsErr:List OI->Int
 | []=>0
 | a::l=>if rowErr a=0 then rowsErr l else rowErr a
def errHR (g:Gr) (h:Hs):Int:=if ((L h.s).length:Int)=g.n then (if (L h.s).any bA=true then 3 else if (L h.x).length=(L g.edges).length then rowsErr (L h.x) else 6) else 6
def fewB (g:Gr):Bool:=(decide (g.n<=8)||decide (g.n>30))&&(decide ((L g.init).length<=40)&&(decide ((L g.edges).length<=16)||(decide ((L g.edges).length>120)&&decide ((L g.edges).length<=122))))
theorem Zz (g:Gr):view (.agg (eGr g))=.agg (eGr g):=by simp [view,Zw,eGr,ZO,WU,Zs]
theorem Zr (g:Gr):boxV (.agg (eGr g))=some (eGr g):=rfl
theorem S10 {g:Gr} {σ:Qa}:Qv CC 10 [.agg (eGr g)] σ=some (.p (.bool (fewB g))):=by
 have g0:([Row.mix (eGr g)]:Qa)[0]?=some (.mix (eGr g)):=rfl
 refine Qk (by simp [Zz]) rfl (F10_call (r:=(.p (.bool (fewB g)),[.mix (eGr g)])) ?_) rfl
 rw [F10_eq]
 have q0:decide (((L g.init).length:Int)<=40)=decide ((L g.init).length<=40):=by rw [decide_eq_decide]; omega
 have q1:decide (((L g.edges).length:Int)<=16)=decide ((L g.edges).length<=16):=by rw [decide_eq_decide]; omega
 have q2:decide (((L g.edges).length:Int)>120)=decide ((L g.edges).length>120):=by rw [decide_eq_decide]; omega
 have q3:decide (((L g.edges).length:Int)<=122)=decide ((L g.edges).length<=122):=by rw [decide_eq_decide]; omega
 unfold fewB
 cases e1:decide (g.n<=8) <;> cases e2:decide (g.n>30) <;> cases e3:decide ((L g.init).length<=40) <;> cases e4:decide ((L g.edges).length<=16) <;> cases e5:decide ((L g.edges).length>120) <;> cases e6:decide ((L g.edges).length<=122) <;>
  simp only [Zr,gG,List.length_nil,List.nil_append,We,WE,Zg,gP,QF,QO,Zc,Qc (off:=0) g0 (v:=.p (.int .i64 g.n)) rfl,Qc (off:=1) g0 (v:=.p (eSl g.init)) rfl,Qc (off:=2) g0 (v:=.p (eEs g.edges)) rfl,QZ,Ww,QX,Zh,q0,q1,q2,q3,e1,e2,e3,e4,e5,e6,
   Bool.or_true,Bool.or_false,Bool.true_or,Bool.false_or,Bool.and_true,Bool.and_false,Bool.true_and,Bool.false_and]
theorem S107 (e:Edg) (σ:Qa):Qv CC 107 [.agg (edgD e)] σ=some (.p (.bool (tk e))):=by
 have g0:([Row.mix (edgD e)]:Qa)[0]?=some (.mix (edgD e)):=rfl
 have hb:boxV (.agg (edgD e))=some (edgD e):=rfl
 refine Qk rfl rfl (F107_call (r:=(.p (.bool (tk e)),[.mix (edgD e)])) ?_) rfl
 rw [F107_eq]
 simp only [hb,gG,List.length_nil,List.nil_append,VD,gP,QF,Qc (off:=2) g0 (v:=.p (.int .i64 e.a)) rfl,QV]
 rfl
section
variable {g : Gr} (hi : (L g.init).length <= 1000) (he : (L g.edges).length <= 10000)
include hi he
theorem S81 (σ:Qa):Qv CC 81 [.agg (eGr g)] σ=some (.p (pI (errG g))):=by
 have g0:([Row.mix (eGr g)]:Qa)[0]?=some (.mix (eGr g)):=rfl
 refine Qk (by simp [Zz]) rfl (F81_call (r:=(.p (pI (errG g)),[.mix (eGr g)])) ?_) rfl
 have q1:decide (((L g.edges).length:Int)<=120)=decide ((L g.edges).length<=120):=by rw [decide_eq_decide]; omega
 have S73':=fun (b:Bool) (e:Int) (σ:Qa)=>S73 b e σ
 simp only [pI] at S73'
 have bs:=fun (x y z:Int) (σ:Qa)=>bs143_3 x y z σ
 simp only [pI] at bs
 rw [F81_eq]
 simp only [Zr,gG,List.length_nil,List.nil_append,We,Zg,gP,QF,Zc,Qc (off:=0) g0 (v:=.p (.int .i64 g.n)) rfl,Qc (off:=2) g0 (v:=.p (eEs g.edges)) rfl,S100 (q:=tk) he (fun σ0 _ e=>S107 e σ0),Wy g0,S96 hi he,S73',QX]
 have fin:∀ b2:Bool,b2=(decide (g.n<=30)&&decide ((L g.edges).length<=120))->orL [if isG g=true then 0 else 5,if b2=true then 0 else 2,if (!(L g.edges).any tk)=true then 0 else 3]=errG g:=by
  rintro _ rfl
  unfold errG
  cases isG g <;> by_cases h1:g.n<=30 <;> by_cases h2:(L g.edges).length<=120 <;> cases (L g.edges).any tk <;> simp [orL,h1,h2]
 have h53:∀ (a b c:Int) (σ:Qa),Qv CC 53 [.p (.sl true 3 (Qr [a,b,c]))] σ=some (.p (.int .i64 (orL [a,b,c]))):=fun a b c σ=>S53t rfl (by simp)
 by_cases h1:g.n<=30
 ·simp only [decide_eq_true h1,gG,Qc (off:=2) g0 (v:=.p (eEs g.edges)) rfl,Ww,QX,q1,S73',bs,h53]
  rw [fin _ (by rw [decide_eq_true h1,Bool.true_and])]
 ·simp only [decide_eq_false h1,gG,Ww,QX,q1,S73',bs,h53]
  rw [fin _ (by rw [decide_eq_false h1,Bool.false_and])]
omit hi in
theorem L17 {σ:Qa} (g0:σ[0]?=some (.mix (eGr g))):∀ (d i:Nat),(L g.edges).length-i=d->i<=(L g.edges).length->
  f17_L0 Qb 0 (.ptr 0 0) (N i) σ=some (.p (pI (if ((L g.edges).drop i).any tk=true then 3 else 0)),σ)
 | 0,i,hd,hj=>by
  rw [f17_L0_eq Qb rfl,List.drop_of_length_le (by omega)]
  simp (disch:=omega) only [N,Zg,gP,Zc,Qc (off:=2) g0 (v:=.p (eEs g.edges)) rfl,Ww,Qn,ltF,gG]
  rfl
 | d+1,i,hd,hj=>by
  have hil:i<(L g.edges).length:=by omega
  have ih:=L17 g0 d (i+1) (by omega) (by omega)
  have e0:(L g.edges).drop i=gE (L g.edges) i::(L g.edges).drop (i+1):=by rw [Vw hil]; exact List.drop_eq_getElem_cons hil
  rw [f17_L0_eq Qb rfl,e0,List.any_cons]
  by_cases h11:(gE (L g.edges) i).a=11
  ·simp (disch:=omega) only [N,Zg,gP,Zc,Qc (off:=2) g0 (v:=.p (eEs g.edges)) rfl,Ww,Qn,ltT,gG,Uq,VD,QF,ldEa hil,QV,eqT h11,tk,Bool.true_or,if_true]
  ·simp (disch:=omega) only [N,Zg,gP,Zc,Qc (off:=2) g0 (v:=.p (eEs g.edges)) rfl,Ww,Qn,ltT,gG,Uq,VD,QF,ldEa hil,QV,eqF h11,add1,tk,Bool.false_or]
   exact ih
theorem S17 (σ:Qa):Qv CC 17 [.agg (eGr g)] σ=some (.p (pI (errG g))):=by
 have g0:([Row.mix (eGr g)]:Qa)[0]?=some (.mix (eGr g)):=rfl
 refine Qk (by simp [Zz]) rfl (F17_call (r:=(.p (pI (errG g)),[.mix (eGr g)])) ?_) rfl
 rw [F17_eq]
 unfold errG
 cases hG:isG g with
 | false=>
  simp only [Zr,gG,List.length_nil,List.nil_append,Wy g0,Qi,List.append_nil,S56 hi he,hG]
  rfl
 | true=>
  have hL:=L17 he g0 _ 0 rfl (Nat.zero_le _)
  rw [List.drop_zero] at hL
  by_cases h1:g.n<=30
  ·have p1:¬ (g.n>30):=by omega
   by_cases h2:(L g.edges).length<=120
   ·have p2:¬ (((L g.edges).length:Int)>120):=by omega
    simp only [Zr,gG,List.length_nil,List.nil_append,Wy g0,S56 hi he,hG,We,Zg,gP,QF,Zc,Qc (off:=0) g0 (v:=.p (.int .i64 g.n)) rfl,Qc (off:=2) g0 (v:=.p (eEs g.edges)) rfl,Ww,Zh,gtF p1,gtF p2,if_true,if_pos (And.intro h1 h2)]
    exact hL
   ·have p2:(((L g.edges).length:Int)>120):=by omega
    have p3:¬ (g.n<=30/\(L g.edges).length<=120):=fun h=>h2 h.2
    simp only [Zr,gG,List.length_nil,List.nil_append,Wy g0,S56 hi he,hG,We,Zg,gP,QF,Zc,Qc (off:=0) g0 (v:=.p (.int .i64 g.n)) rfl,Qc (off:=2) g0 (v:=.p (eEs g.edges)) rfl,Ww,Zh,gtF p1,gtT p2,if_true,if_neg p3]
  ·have p1:g.n>30:=by omega
   have p3:¬ (g.n<=30/\(L g.edges).length<=120):=fun h=>h1 h.1
   simp only [Zr,gG,List.length_nil,List.nil_append,Wy g0,S56 hi he,hG,We,Zg,gP,QF,Zc,Qc (off:=0) g0 (v:=.p (.int .i64 g.n)) rfl,Qc (off:=2) g0 (v:=.p (eEs g.edges)) rfl,Ww,Zh,gtT p1,if_true,if_neg p3]
end
end Go.D.StS
end
/- Chapter 22: the errors of history variables; own copies; AddHistory. -/
section
set_option linter.unusedVariables false
set_option linter.unusedSimpArgs false
namespace Go.D.StS
open Go.D.Srt
theorem S82' {o:OI} {σ:Qa} (hl:(L o).length<=1000):Qv CC 82 [.p (eSl o)] σ=some (.p (.bool (!(L o).any bA))):=S82 hl
theorem h53_2 (a b:Int) (σ:Qa):Qv CC 53 [.p (.sl true 2 (Qr [a,b]))] σ=some (.p (.int .i64 (orL [a,b]))):=S53t rfl (by simp)
theorem bs143_2' (x y:Int) (σ:Qa):buildSlice PP none 143 2 [(0,.p (.int .i64 x)),(1,.p (.int .i64 y))] σ=some (.p (.sl true 2 (Qr [x,y])),σ):=Eq.trans (by kernel_rfl) rfl
theorem S73i (b:Bool) (e:Int) (σ:Qa):Qv CC 73 [.p (.bool b),.p (.int .i64 e)] σ=some (.p (.int .i64 (if b=true then 0 else e))):=S73 b e σ
theorem S57i (n:Int) (σ:Qa):Qv CC 57 [.p (.int .i64 n)] σ=some (.p (.bool (inR n 0 7))):=S57 n σ
section
variable {h : Hs} {σ : Qa}
end
section
variable {g : Gr} {h : Hs} (hr : ∀ j, j < (L h.x).length -> (L ((L h.x).getD j none)).length <= 1000) (hl : (L h.x).length <= 1000) (hs : (L h.s).length <= 1000)
include hr hl hs
def errH (g:Gr) (h:Hs):Int:=if errG g=0 then errHR g h else errG g
end
def ownH (h:Hs):Hs:=⟨some (L h.s),if L h.x=[] then none else some ((L h.x).map fun o=>some (L o))⟩
end Go.D.StS
end
/- Chapter 22: AddHistory. -/
section
set_option linter.unusedVariables false
set_option linter.unusedSimpArgs false
namespace Go.D.StS
open Go.D.Srt
theorem mapO_thawP (σ:Qa) (n d:Nat):∀ cs:List PV,mapO (Vv n σ (d+1)) (cs.map DV.p)=some (QP cs)
 | []=>rfl
 | a::cs=>by
  have h:=mapO_thawP σ n d cs
  simp only [List.map_cons,mapO,h,QP]
  rfl
theorem RowG.tw {σ:Qa} {B sz n m:Nat} {cs:List PV} {x:DV} (h:RowG σ B sz n cs x) (hm:m<=B):thaw m σ x=some (.p (if n=0 then .nilsl else .sl false n (QP cs))):=by
 rcases h.2 with ⟨e,rfl⟩ | ⟨h0,r,rfl,e2,e3⟩
 ·rw [if_pos e]; rfl
 ·have e4:((cs.map DV.p).drop 0).take (n*sz)=cs.map DV.p:=by rw [List.drop_zero,List.take_of_length_le (by rw [List.length_map,h.1]; exact Nat.le_refl _)]
  have e5:m<=r:=by omega
  have e6:0+n*sz<=(cs.map DV.p).length:=by rw [List.length_map,h.1]; omega
  simp only [thaw,Uu,Vv,e5,if_true,e2,e6,e4,mapO_thawP,Option.map_some,h0,if_false]
theorem rowT_tw {σ:Qa} {B sz n m:Nat} {cs:List PV} {x:DV} (h:StT.RowT σ B sz n cs x) (hm:m<=B):thaw m σ x=some (.p (if n=0 then .nilsl else .sl false n (QP cs))):=by
 rcases h.2 with ⟨e,rfl⟩ | ⟨h0,r,rest,rfl,e2,e3⟩
 ·rw [if_pos e]; rfl
 ·have e4:((cs.map DV.p++rest).drop 0).take (n*sz)=cs.map DV.p:=by rw [List.drop_zero,List.take_left' (by rw [List.length_map,h.1])]
  have e5:m<=r:=by omega
  have e6:0+n*sz<=(cs.map DV.p++rest).length:=by rw [List.length_append,List.length_map,h.1]; omega
  simp only [thaw,Uu,Vv,e5,if_true,e2,e6,e4,mapO_thawP,Option.map_some,h0,if_false]
theorem ta_tup (n:Nat) (σ:Qa) (vs:List DV):Ze n σ (.tuple vs)=(mapO (Zx n σ) vs).map .tuple:=rfl
theorem tp_agg (n:Nat) (σ:Qa) (cs:List DV):Zx n σ (.agg cs)=(mapO (thaw n σ) cs).map .agg:=rfl
theorem tp_int (n:Nat) (σ:Qa) (v:Int):Zx n σ (.p (.int .i64 v))=some (.p (.int .i64 v)):=rfl
theorem tw_int (n:Nat) (σ:Qa) (v:Int):thaw n σ (.p (.int .i64 v))=some (.p (.int .i64 v)):=rfl
theorem oI_val (l:List Int):(.p (if l.length=0 then PV.nilsl else .sl false l.length (QP (Qr l))):DV)=.p (eSl (oI l)):=by
 unfold oI
 by_cases e:l=[]
 ·subst e; rfl
 ·rw [if_neg e,if_neg (fun h=>e (List.length_eq_zero_iff.1 h)),Zu]; rfl
theorem oE_val (l:List Edg):(.p (if l.length=0 then PV.nilsl else .sl false l.length (QP (Zd l))):DV)=.p (eEs (oE l)):=by
 unfold oE
 by_cases e:l=[]
 ·subst e; rfl
 ·rw [if_neg e,if_neg (fun h=>e (List.length_eq_zero_iff.1 h)),loosens_edgs]; rfl
def mkX (B:List E) (is:List Int) (E':List Edg):Ax:=⟨⟨B.length,oI is,oE E'⟩,oI (B.map Prod.fst),oI (B.map Prod.snd)⟩
theorem GR.val {lo:Nat} {B:List E} {is:List Int} {E':List Edg} {ix ex bx ax:DV} {σ:Qa} (h:GR lo B is E' ix ex bx ax σ) (e:Int) :
  Ze 0 σ (.tuple [.agg [.p (.int .i64 (B.length:Nat)),ix,ex,bx,ax],.p (.int .i64 e)])=some (.tuple [.agg (eAx (mkX B is E')),.p (.int .i64 e)]):=by
 have hb:=Out.tw h.ob 0
 have ha:=Out.tw h.oa 0
 have e1:B.length=(B.map Prod.fst).length:=by simp
 have e2:B.length=(B.map Prod.snd).length:=by simp
 rw [e1,oI_val] at hb
 rw [e2,oI_val] at ha
 rw [ta_tup]
 simp only [mapO,tp_agg,tp_int,tw_int,h.ri.tw (Nat.zero_le _),rowT_tw h.re (Nat.zero_le _),hb,ha,oI_val,oE_val,Option.map_some]
 rfl
def zAx:Ax:=⟨⟨0,none,none⟩,none,none⟩
theorem bld33_0:build PP 33 []=some (.agg (eAx zAx)):=Eq.trans (by kernel_rfl) rfl
theorem st33 {σ:Qa} {t:Nat} {z c:List DV} (h:σ[t]?=some (.mix z)) (hz:z.length=5) (hc:c.length=5) (ho:c.all DV.one=true):store PP 0 33 (.ptr t 0) (.agg c) σ=some (σ.set t (.mix c)):=by
 have e:QS z 0 c=c:=by simp [QS,hz,hc]
 simp [store,s33,DV.cells,Zo,hc,h,hz,ho,e]
section
variable {g : Gr} {h : Hs}
end
end Go.D.StS
end
/- Chapter 22: the past determines history, in plain terms. -/
section
set_option linter.unusedVariables false
set_option linter.unusedSimpArgs false
namespace Go.D.StS
open Go.D.Srt
theorem any_false {l:List Int} {q:Int->Bool} (h:l.any q=false):∀ i,i<l.length->q (l.getD i 0)=false:=fun i hi=>by
 rw [List.any_eq_false] at h
 have:=h (l.getD i 0) (by rw [Zp 0 hi]; exact List.getElem_mem hi)
 simpa using this
theorem errG_zero {g:Gr} (h:errG g=0):GOk g/\g.n<=30/\(L g.edges).length<=120/\(L g.edges).any tk=false:=by
 unfold errG at h
 by_cases h1:isG g=true
 ·rw [if_pos h1] at h
  by_cases h2:g.n<=30/\(L g.edges).length<=120
  ·rw [if_pos h2] at h
   cases h3:(L g.edges).any tk with
   | true=>rw [h3] at h; simp at h
   | false=>exact ⟨(isG_iff g).1 h1,h2.1,h2.2,rfl⟩
  ·rw [if_neg h2] at h; exact absurd h (by decide)
 ·rw [if_neg h1] at h; exact absurd h (by decide)
theorem fewB_small {g:Gr} (h:fewB g=true) (h1:g.n<=30) (h2:(L g.edges).length<=120):g.n<=8/\(L g.edges).length<=16:=by
 unfold fewB at h
 simp only [Bool.and_eq_true,Bool.or_eq_true,decide_eq_true_iff] at h
 omega
theorem nums_asc {B l:List E} (hB:Asc B) (hasc:Asc l) (hm:∀ x∈l,x∈B):(nums B l).Pairwise (· < ·):=by
 unfold nums
 rw [List.pairwise_map]
 refine List.Pairwise.imp_of_mem (fun {x y} hx hy hlt=>?_) hasc
 have k1:=ZK (hm x hx)
 have k2:=ZK (hm y hy)
 by_cases hle:B.idxOf y<=B.idxOf x
 ·exfalso
  rcases Nat.lt_or_eq_of_le hle with hlt2 | heq
  ·have:=asc_lt hB hlt2 k1.1
   rw [k1.2,k2.2] at this
   unfold ltB at *; omega
  ·have:=k1.2
   rw [<-heq,k2.2] at this
   rw [this] at hlt
   unfold ltB at hlt; omega
 ·omega
section
variable {n : Int} {M : E -> OE} {l B : List E} {E' : List Edg} (hx : ExtG n M l B E')
include hx
theorem ExtG.mem {e:Edg} (he:e∈E'):∃ k,k<B.length/\∃ m∈L (M (ge B k)),e=⟨(k:Int),((B.idxOf (toE m):Nat):Int),m.a⟩/\toE m∈B:=by
 have:=(mem_rawE M B e B 0).1 ((hx.pm _).1 he)
 obtain ⟨k,hk,m,hm,rfl⟩:=this
 exact ⟨k,hk,m,hm,by rw [Nat.zero_add],hx.cl _ (by rw [Zi hk]; exact List.getElem_mem hk) m hm⟩
theorem ExtG.ok (hn:n<=8) (hl:Asc l) (hM:∀ x∈B,(L (M x)).length<=16) (ha:∀ x∈B,∀ e∈L (M x),0<=e.a/\e.a<=11):GOk (mkX B (nums B l) E').g/\B.length<=64/\E'.length<=1024:=by
 have hBl:B.length<=64:=IG.len ⟨asc_nodup hx.asc,hx.ins⟩ hn
 have hEl:E'.length<=1024:=by
  have h1:=rawE_len (M:=M) (B:=B) (c:=16) B 0 hM
  have h2:=hx.pn
  omega
 refine ⟨⟨⟨by simp [mkX],by simp [mkX]; omega⟩,by simp only [mkX,L_oE]; omega,fun s hs=>?_,?_,fun e he=>?_,?_⟩,hBl,hEl⟩
 ·simp only [mkX,L_oI,nums,List.mem_map] at hs
  obtain ⟨x,hxl,rfl⟩:=hs
  have:=(ZK (hx.beg x hxl)).1
  simp only [mkX]
  omega
 ·simp only [mkX,L_oI]
  exact nums_asc hx.asc hl hx.beg
 ·simp only [mkX,L_oE] at he ⊢
  obtain ⟨k,hk,m,hm,rfl,hmB⟩:=hx.mem he
  have h1:=(ZK hmB).1
  have h2:=ha _ (by rw [Zi hk]; exact List.getElem_mem hk) m hm
  simp only
  omega
 ·simp only [mkX,L_oE]
  exact hx.po
theorem ExtG.ext0 (hn:n<=8) (hl:Asc l) (hM:∀ x∈B,(L (M x)).length<=16) (ha:∀ x∈B,∀ e∈L (M x),0<=e.a/\e.a<=11):extE (mkX B (nums B l) E')=0:=by
 obtain ⟨h1,h2,h3⟩:=hx.ok hn hl hM ha
 have e1:lenX (mkX B (nums B l) E')=true:=(extE_ok _).2 ⟨by simp [mkX,L_oI],by simp [mkX,L_oI]⟩
 have e2:badX (mkX B (nums B l) E')=false:=by
  unfold badX
  rw [Bool.or_eq_false_iff,List.any_eq_false,List.any_eq_false]
  simp only [mkX,L_oI]
  refine ⟨fun v hv=>?_,fun v hv=>?_⟩
  ·rw [List.mem_map] at hv
   obtain ⟨x,hxB,rfl⟩:=hv
   have:=hx.ins x hxB
   unfold InS at this
   have:inR x.1 0 399=true:=(WJ _ _ _).2 (by omega)
   simp [bB,this]
  ·rw [List.mem_map] at hv
   obtain ⟨x,hxB,rfl⟩:=hv
   have:=hx.ins x hxB
   unfold InS at this
   have:inR x.2 0 7=true:=(WJ _ _ _).2 (by omega)
   simp [bA,this]
 have e3:ascX (L (mkX B (nums B l) E').b) (L (mkX B (nums B l) E').a)=true:=by
  unfold ascX
  rw [allFrom_iff]
  intro j hj1 hj2
  simp only [mkX,L_oI,List.length_map] at hj2
  have hlt:=asc_lt hx.asc (show j-1<j by omega) (by omega)
  have q1:∀ i,i<B.length->(B.map Prod.fst).getD i 0=(ge B i).1:=fun i hi=>by rw [Zp 0 (by simpa using hi),Zi hi,List.getElem_map]
  have q2:∀ i,i<B.length->(B.map Prod.snd).getD i 0=(ge B i).2:=fun i hi=>by rw [Zp 0 (by simpa using hi),Zi hi,List.getElem_map]
  unfold ascK
  simp only [mkX,L_oI]
  rw [q1 (j-1) (by omega),q1 j (by omega),q2 (j-1) (by omega),q2 j (by omega)]
  exact decide_eq_true ((cmpB_lt (ge B (j-1)) (ge B j)).2 hlt)
 unfold extE
 rw [if_pos ((isG_iff _).2 h1),if_pos e1,e2,if_neg (by decide),if_pos e3]
end
def det (g:Gr) (B:List E) (s i:Nat) (y:Edg):Bool:=
 decide (y.f=(s:Int))&&(decide ((ge B s).1=(gE (L g.edges) i).f)&&(decide ((ge B y.t.toNat).1=(gE (L g.edges) i).t)&&decide (y.a=(gE (L g.edges) i).a)))
end Go.D.StS
end
/- AuxiliaryDetermined: what the law answers, if awake answers true. -/
section
set_option linter.unusedVariables false
set_option linter.unusedSimpArgs false
namespace Go.D.StS
open Go.D.Srt
section
variable {g : Gr} {x : Ax} {B : List E} {σ : Qa} {r : Nat}
section
variable (hbase:∀ k,k<(L x.b).length->(L x.b).getD k 0=(ge B k).1) (hL:(L x.g.edges).length<=10000) (ht:∀ e∈L x.g.edges,0<=e.t/\e.t.toNat<(L x.b).length) (hn:x.g.n=((L x.b).length:Nat)) (hb:(L x.b).length<=1000) (he:(L g.edges).length<=1000)
 (hdet:∀ s i,s<(L x.b).length->i<(L g.edges).length->(L x.g.edges).countP (det g B s i)=if (ge B s).1=(gE (L g.edges) i).f then 1 else 0)
include hbase hL ht hb he hdet
end
end
end Go.D.StS
end
/- AuxiliaryDetermined: what the law answers, if awake answers true; the whole. -/
section
set_option linter.unusedVariables false
set_option linter.unusedSimpArgs false
namespace Go.D.StS
open Go.D.Srt
theorem any_ok {l:List Int} (h:∀ i,i<l.length->0<=l.getD i 0/\l.getD i 0<=7):l.any bA=false:=by
 rw [List.any_eq_false]
 intro v hv
 obtain ⟨i,hi,rfl⟩:=List.getElem_of_mem hv
 have:=h i hi
 rw [Zp 0 hi] at this
 have:inR l[i] 0 7=true:=(WJ _ _ _).2 this
 simp [bA,this]
theorem ownH_x (h:Hs):L (ownH h).x=(L h.x).map fun o=>some (L o):=by
 unfold ownH
 by_cases e:L h.x=[]
 ·simp only [if_pos e,e]; rfl
 ·simp only [if_neg e]; rfl
theorem ownH_len (h:Hs):(L (ownH h).x).length=(L h.x).length:=by rw [ownH_x,List.length_map]
theorem ownH_row (h:Hs) (j:Nat):L ((L (ownH h).x).getD j none)=L ((L h.x).getD j none):=by
 rw [ownH_x]
 by_cases hj:j<(L h.x).length
 ·rw [Zp none (by simpa using hj),Zp none hj,List.getElem_map]; rfl
 ·rw [List.getD_eq_getElem?_getD,List.getD_eq_getElem?_getD,List.getElem?_eq_none (by simpa using hj),List.getElem?_eq_none (by omega)]
theorem HOk.own {g:Gr} {h:Hs} (hh:HOk g h):HOk (ownG g) (ownH h):=
 ⟨hh.sl,hh.sv,by rw [ownH_len]; exact hh.xl,fun j hj=>by rw [ownH_row]; rw [ownH_len] at hj; exact hh.xr j hj,fun j hj i hi=>by rw [ownH_row]; rw [ownH_len] at hj; exact hh.xv j hj i hi⟩
theorem GOk.own {g:Gr} (hg:GOk g):GOk (ownG g):=⟨hg.n0,hg.e0,hg.il,hg.ip,hg.el,hg.ep⟩
theorem ax_out (B:List E) (is:List Int) (E':List Edg):(L (mkX B is E').b)=B.map Prod.fst/\(L (mkX B is E').a)=B.map Prod.snd/\L (mkX B is E').g.edges=E'/\L (mkX B is E').g.init=is/\(mkX B is E').g.n=(B.length:Nat):=
 ⟨L_oI _,L_oI _,L_oE _,L_oI _,rfl⟩
section
variable {g : Gr} {h : Hs} (hg : GOk g) (hh : HOk g h) (hn : g.n <= 8) (he : (L g.edges).length <= 16) (hG : errG g = 0)
include hg hh hn he hG
end
end Go.D.StS
end
/- Equations of functions 60, printed by gen.py. -/
section
set_option linter.unusedVariables false
set_option maxRecDepth 10000
namespace Go.D
open Go.Proofs
noncomputable section
variable (G:Qe) (lo:Nat) {σ:Qa} {r:DV×Qa}
open _root_.Go.D.Code (fstC sndC)
open _root_.Go.D.Ann (left right)
def c60_0:Code:=Qs Tryz.f60
def a60_0:Ann:=(pol 60).ann
def a60_7:Ann:=right (left (right (right a60_0)))
def a60_8:Ann:=left a60_7
def c60_9:Code:=fstC (fstC (sndC (fstC (sndC (sndC c60_0)))))
def c60_19:Code:=sndC (sndC (sndC c60_0))
def a60_19:Ann:=right (right (right a60_0))
def a60_22:Ann:=right (left a60_19)
def a60_23:Ann:=left a60_22
def c60_24:Code:=fstC (fstC (sndC (fstC c60_19)))
def a60_30:Ann:=right (left a60_23)
def a60_35:Ann:=right (right (left a60_30))
def a60_36:Ann:=left a60_35
def c60_37:Code:=fstC (fstC (sndC (sndC (fstC (sndC c60_24)))))
def a60_44:Ann:=left (right (left a60_36))
def c60_50:Code:=sndC (sndC c60_37)
def a60_50:Ann:=right (right (left a60_36))
def c60_51:Code:=sndC c60_19
def a60_51:Ann:=right a60_19
def a60_58:Ann:=right (left (right (right a60_51)))
def a60_59:Ann:=left a60_58
def c60_60:Code:=fstC (fstC (sndC (fstC (sndC (sndC c60_51)))))
def a60_67:Ann:=left (right (left a60_59))
def c60_77:Code:=sndC (sndC c60_60)
def a60_77:Ann:=right (right (left a60_59))
def c60_78:Code:=sndC (sndC (sndC c60_51))
def a60_78:Ann:=right (right (right a60_51))
def a60_81:Ann:=right (left a60_78)
def a60_82:Ann:=left a60_81
def c60_83:Code:=fstC (fstC (sndC (fstC c60_78)))
def a60_90:Ann:=left (right (left a60_82))
def c60_96:Code:=sndC (sndC c60_83)
def a60_96:Ann:=right (right (left a60_82))
def c60_97:Code:=sndC c60_78
def a60_97:Ann:=right a60_78
def a60_100:Ann:=right (left a60_97)
def a60_101:Ann:=left a60_100
def c60_102:Code:=fstC (fstC (sndC (fstC c60_97)))
def a60_109:Ann:=left (right (left a60_101))
def a60_112:Ann:=right (left a60_109)
def a60_113:Ann:=left a60_112
def c60_114:Code:=fstC (fstC (sndC (fstC (fstC (sndC c60_102)))))
def a60_121:Ann:=left (right (left a60_113))
def a60_124:Ann:=right (left a60_121)
def a60_125:Ann:=left a60_124
def c60_126:Code:=fstC (fstC (sndC (fstC (fstC (sndC c60_114)))))
def a60_133:Ann:=left (right (left a60_125))
def c60_139:Code:=sndC (sndC c60_126)
def a60_139:Ann:=right (right (left a60_125))
def c60_140:Code:=sndC (sndC c60_114)
def a60_140:Ann:=right (right (left a60_113))
def c60_141:Code:=sndC (sndC c60_102)
def a60_141:Ann:=right (right (left a60_101))
def c60_142:Code:=sndC c60_97
def a60_142:Ann:=right a60_97
def f60_L0 (a b f m O:DV) (σ:Qa):RS:=
 Qm G PP (pol 60) CC lo (.loop c60_9) a60_8 (a::b::Z::Z::f::m::O::zn 166 []) σ
 (Qf 0 a60_7 (seqC G PP (pol 60) CC lo c60_19 a60_19 (finR PP Tryz.f60.results.toList)))
def f60_L1 (a b f m H:DV) (σ:Qa):RS:=
 Qm G PP (pol 60) CC lo (.loop c60_24) a60_23 (a::b::Z::Z::f::m::Z::H::zn 165 []) σ
 (Qf 2 a60_22 (seqC G PP (pol 60) CC lo c60_51 a60_51 (finR PP Tryz.f60.results.toList)))
def f60_L2 (a b f m H k:DV) (σ:Qa):RS:=
 Qm G PP (pol 60) CC lo (.loop c60_37) a60_36 (a::b::Z::Z::f::m::Z::H::k::zn 164 []) σ
 (Qf 4 a60_35 (Qf 3 a60_30 (QN G PP (pol 60) CC lo c60_24 a60_23 (Qf 2 a60_22 (seqC G PP (pol 60) CC lo c60_51 a60_51 (finR PP Tryz.f60.results.toList))))))
def f60_J0 (a b f m H k aw B I ae aj aq Y L C x y X P N t J E ak ar az T W aa b9 be bp av bc bb bh:DV) (σ:Qa):RS:=
 (Qf 5 a60_44 (seqC G PP (pol 60) CC lo c60_50 a60_50 (QN G PP (pol 60) CC lo c60_37 a60_36 (Qf 4 a60_35 (Qf 3 a60_30 (QN G PP (pol 60) CC lo c60_24 a60_23 (Qf 2 a60_22 (seqC G PP (pol 60) CC lo c60_51 a60_51 (finR PP Tryz.f60.results.toList))))))))) .normal (a::b::Z::Z::f::m::Z::H::k::zn 21 (aw::B::I::ae::Z::Z::aj::aq::Y::L::C::x::y::X::P::N::t::J::E::ak::ar::az::T::W::aa::b9::be::bp::av::bc::bb::bh::zn 111 [])) σ
def f60_L3 (a b f m g i j:DV) (σ:Qa):RS:=
 Qm G PP (pol 60) CC lo (.loop c60_60) a60_59 (a::b::Z::Z::f::m::Z::Z::Z::g::i::j::zn 161 []) σ
 (Qf 6 a60_58 (seqC G PP (pol 60) CC lo c60_78 a60_78 (finR PP Tryz.f60.results.toList)))
def f60_J1 (a b f m g i j bu bg bf cm ba cz cc M ck ca bq bz bv c7 cw n cr bk bt bn bw cn ch co ct ci ce cb cj c8 cd dh df bl:DV) (σ:Qa):RS:=
 (Qf 7 a60_67 (seqC G PP (pol 60) CC lo c60_77 a60_77 (QN G PP (pol 60) CC lo c60_60 a60_59 (Qf 6 a60_58 (seqC G PP (pol 60) CC lo c60_78 a60_78 (finR PP Tryz.f60.results.toList)))))) .normal (a::b::Z::Z::f::m::Z::Z::Z::g::i::j::zn 53 (bu::bg::bf::cm::Z::Z::ba::cz::cc::M::ck::ca::bq::bz::bv::c7::cw::n::cr::bk::bt::bn::bw::cn::ch::co::ct::ci::ce::cb::cj::c8::cd::dh::df::bl::zn 72 [])) σ
def f60_L4 (a b f m g i l:DV) (σ:Qa):RS:=
 Qm G PP (pol 60) CC lo (.loop c60_83) a60_82 (a::b::Z::Z::f::m::Z::Z::Z::g::i::Z::l::zn 160 []) σ
 (Qf 8 a60_81 (seqC G PP (pol 60) CC lo c60_97 a60_97 (finR PP Tryz.f60.results.toList)))
def f60_J2 (a b f m g i l dl ei dt dz dk dj ea dd dx am c9 ek du di cp eu ef cg:DV) (σ:Qa):RS:=
 (Qf 9 a60_90 (seqC G PP (pol 60) CC lo c60_96 a60_96 (QN G PP (pol 60) CC lo c60_83 a60_82 (Qf 8 a60_81 (seqC G PP (pol 60) CC lo c60_97 a60_97 (finR PP Tryz.f60.results.toList)))))) .normal (a::b::Z::Z::f::m::Z::Z::Z::g::i::Z::l::zn 88 (dl::ei::dt::dz::Z::Z::dk::dj::ea::dd::dx::am::c9::ek::du::di::cp::eu::ef::cg::zn 52 [])) σ
def f60_L5 (b f m g i q:DV) (σ:Qa):RS:=
 Qm G PP (pol 60) CC lo (.loop c60_102) a60_101 (Z::b::Z::Z::f::m::Z::Z::Z::g::i::Z::Z::q::zn 159 []) σ
 (Qf 10 a60_100 (seqC G PP (pol 60) CC lo c60_142 a60_142 (finR PP Tryz.f60.results.toList)))
def f60_L6 (b f m g i q w:DV) (σ:Qa):RS:=
 Qm G PP (pol 60) CC lo (.loop c60_114) a60_113 (Z::b::Z::Z::f::m::Z::Z::Z::g::i::Z::Z::q::w::zn 158 []) σ
 (Qf 12 a60_112 (Qf 11 a60_109 (seqC G PP (pol 60) CC lo c60_141 a60_141 (QN G PP (pol 60) CC lo c60_102 a60_101 (Qf 10 a60_100 (seqC G PP (pol 60) CC lo c60_142 a60_142 (finR PP Tryz.f60.results.toList)))))))
def f60_L7 (b f m g i q w F:DV) (σ:Qa):RS:=
 Qm G PP (pol 60) CC lo (.loop c60_126) a60_125 (Z::b::Z::Z::f::m::Z::Z::Z::g::i::Z::Z::q::w::F::zn 157 []) σ
 (Qf 14 a60_124 (Qf 13 a60_121 (seqC G PP (pol 60) CC lo c60_140 a60_140 (QN G PP (pol 60) CC lo c60_114 a60_113 (Qf 12 a60_112 (Qf 11 a60_109 (seqC G PP (pol 60) CC lo c60_141 a60_141 (QN G PP (pol 60) CC lo c60_102 a60_101 (Qf 10 a60_100 (seqC G PP (pol 60) CC lo c60_142 a60_142 (finR PP Tryz.f60.results.toList)))))))))))
def f60_J3 (b f m g i q w F da dr fi dp fj f7 fk fl gc gd fm fo fp fq fa fb fg fz gf fc fy ft gg fu fv g9 fw gi fh f8 fx:DV) (σ:Qa):RS:=
 (Qf 15 a60_133 (seqC G PP (pol 60) CC lo c60_139 a60_139 (QN G PP (pol 60) CC lo c60_126 a60_125 (Qf 14 a60_124 (Qf 13 a60_121 (seqC G PP (pol 60) CC lo c60_140 a60_140 (QN G PP (pol 60) CC lo c60_114 a60_113 (Qf 12 a60_112 (Qf 11 a60_109 (seqC G PP (pol 60) CC lo c60_141 a60_141 (QN G PP (pol 60) CC lo c60_102 a60_101 (Qf 10 a60_100 (seqC G PP (pol 60) CC lo c60_142 a60_142 (finR PP Tryz.f60.results.toList)))))))))))))) .normal (Z::b::Z::Z::f::m::Z::Z::Z::g::i::Z::Z::q::w::F::zn 123 ([da,dr,fi,dp,fj,f7,fk,fl,Z,Z,gc,gd,fm,fo,fp,fq,fa,fb,fg,fz,gf,fc,fy,ft,gg,fu,fv,g9,fw,gi,fh,f8,fx,Z])) σ
def F60 (a b:DV) (σ:Qa):RS:=
 Qm G PP (pol 60) CC lo c60_0 a60_0 (a::b::zn 171 []) σ (finR PP Tryz.f60.results.toList)
theorem f60_L0_eq (G:Qe) (hG:Qo G) (lo:Nat) (a b f m O:DV) (σ:Qa):f60_L0 G lo a b f m O σ =
 (len PP 22 a σ).bind fun b8=>
 (binOp PP .lss 3 O b8).bind fun Q=>
 Qh Q
 (
 (indexAddr PP 22 a O).bind fun ac=>
 (load PP 3 ac σ).bind fun U=>
 (indexAddr PP 81 m U).bind fun au=>
 (store PP lo 4 au (DV.p (PV.bool true)) σ).bind fun σ2=>
 (binOp PP .add 3 O I1).bind fun o=>
 f60_L0 G lo a b f m o σ2
 )
 (
 f60_L1 G lo a b f m (DV.p (PV.bool true)) σ
 ):=(Ql G hG).trans (by kernel_rfl)
theorem f60_L1_eq (G:Qe) (hG:Qo G) (lo:Nat) (a b f m H:DV) (σ:Qa):f60_L1 G lo a b f m H σ =
 Qh H
 (
 f60_L2 G lo a b f m (DV.p (PV.bool false)) I0 σ
 )
 (
 (Qx PP 33).bind fun z9=>
 (len PP 81 m (σ++[Row.mix z9])).bind fun bi=>
 (makeSlice PP false 22 bi bi (σ++[Row.mix z9])).bind fun r64_13=>
 f60_L3 G lo a b f m (DV.ptr (List.length σ) 0) r64_13.1 I0 r64_13.2
 ):=(Ql G hG).trans (by kernel_rfl)
theorem f60_L2_eq (G:Qe) (hG:Qo G) (lo:Nat) (a b f m H k:DV) (σ:Qa):f60_L2 G lo a b f m H k σ =
 (len PP 106 b σ).bind fun I=>
 (binOp PP .lss 3 k I).bind fun ae=>
 Qh ae
 (
 (indexAddr PP 106 b k).bind fun L=>
 (fieldAddr PP 109 L 0).bind fun C=>
 (load PP 3 C σ).bind fun x=>
 (indexAddr PP 81 m x).bind fun y=>
 (load PP 4 y σ).bind fun X=>
 G _ X true (some (m,σ)) σ fun N σ3=>
 G _ X true (some (b,σ3)) σ3 fun t σ4=>
 G _ X true (some (k,σ4)) σ4 fun J σ5=>
 Gp G X true (indexAddr PP 106 t J) σ5 fun E σ6=>
 Gp G X true (fieldAddr PP 109 E 1) σ6 fun ak σ7=>
 Gp G X true (load PP 3 ak σ7) σ7 fun ar σ8=>
 Gp G X true (indexAddr PP 81 N ar) σ8 fun az σ9=>
 Gp G X true (load PP 4 az σ9) σ9 fun T σ10=>
 Gp G X true (unOp .not T) σ10 fun W σ11=>
 (Qt X W (DV.p (PV.bool false))).bind fun aa=>
 Qh aa
 (
 (indexAddr PP 106 b k).bind fun av=>
 (fieldAddr PP 109 av 1).bind fun bc=>
 (load PP 3 bc σ11).bind fun bb=>
 (indexAddr PP 81 m bb).bind fun bh=>
 (store PP lo 4 bh (DV.p (PV.bool true)) σ11).bind fun σ12=>
 f60_J0 G lo a b f m (DV.p (PV.bool true)) k k b I ae m b k L C x y X X N t J E ak ar az T W aa m b k av bc bb bh σ12
 )
 (
 f60_J0 G lo a b f m H k k b I ae m b k L C x y X X N t J E ak ar az T W aa Z Z Z Z Z Z Z σ11
 )
 )
 (
 f60_L1 G lo a b f m H σ
 ):=(Ql G hG).trans (by kernel_rfl)
theorem f60_J0_eq (G:Qe) (lo:Nat) (a b f m H k aw B I ae aj aq Y L C x y X P N t J E ak ar az T W aa b9 be bp av bc bb bh:DV) (σ:Qa):f60_J0 G lo a b f m H k aw B I ae aj aq Y L C x y X P N t J E ak ar az T W aa b9 be bp av bc bb bh σ =
 (binOp PP .add 3 k I1).bind fun ai=>
 f60_L2 G lo a b f m H ai σ:=by kernel_rfl
theorem f60_L3_eq (G:Qe) (hG:Qo G) (lo:Nat) (a b f m g i j:DV) (σ:Qa):f60_L3 G lo a b f m g i j σ =
 (len PP 81 m σ).bind fun bf=>
 (binOp PP .lss 3 j bf).bind fun cm=>
 Qh cm
 (
 (indexAddr PP 81 m j).bind fun cc=>
 (load PP 4 cc σ).bind fun M=>
 Qh M
 (
 (fieldAddr PP 33 g 0).bind fun bq=>
 (fieldAddr PP 25 bq 0).bind fun bz=>
 (load PP 3 bz σ).bind fun bv=>
 (indexAddr PP 22 i j).bind fun c7=>
 (store PP lo 3 c7 bv σ).bind fun σ14=>
 (fieldAddr PP 33 g 0).bind fun cw=>
 (fieldAddr PP 25 cw 0).bind fun n=>
 (load PP 3 n σ14).bind fun cr=>
 (binOp PP .add 3 cr I1).bind fun bk=>
 (fieldAddr PP 33 g 0).bind fun bt=>
 (fieldAddr PP 25 bt 0).bind fun bn=>
 (store PP lo 3 bn bk σ14).bind fun σ15=>
 (fieldAddr PP 33 g 1).bind fun bw=>
 (load PP 22 bw σ15).bind fun cn=>
 (binOp PP .quo 3 j (DV.p (PV.int IntKind.i64 (8)))).bind fun co=>
 (buildSlice PP none 22 1 [(0,co)] σ15).bind fun r91_16=>
 (append PP lo false 22 22 cn r91_16.1 r91_16.2).bind fun r92_17=>
 (fieldAddr PP 33 g 2).bind fun ce=>
 (load PP 22 ce r92_17.2).bind fun cb=>
 (binOp PP .rem 3 j (DV.p (PV.int IntKind.i64 (8)))).bind fun c8=>
 (buildSlice PP none 22 1 [(0,c8)] r92_17.2).bind fun r97_18=>
 (append PP lo false 22 22 cb r97_18.1 r97_18.2).bind fun r98_19=>
 (fieldAddr PP 33 g 1).bind fun df=>
 (store PP lo 22 df r92_17.1 r98_19.2).bind fun σ20=>
 (fieldAddr PP 33 g 2).bind fun bl=>
 (store PP lo 22 bl r98_19.1 σ20).bind fun σ21=>
 bif (true&&((List.all [σ15,σ15,σ15,σ15,σ15,r91_16.2,r92_17.2,r92_17.2,r92_17.2,r92_17.2,r92_17.2,r97_18.2] fun s=>Jn (load PP 22 ce r92_17.2) (load PP 22 ce s))&&true)) then
 f60_J1 G lo a b f m g i j j m bf cm m j cc M i j bq bz bv c7 cw n cr bk bt bn bw cn j co r91_16.1 r92_17.1 ce cb j c8 r97_18.1 r98_19.1 df bl σ21
 else none
 )
 (
 f60_J1 G lo a b f m g i j j m bf cm m j cc M Z Z Z Z Z Z Z Z Z Z Z Z Z Z Z Z Z Z Z Z Z Z Z Z Z Z σ
 )
 )
 (
 f60_L4 G lo a b f m g i I0 σ
 ):=(Ql G hG).trans (by kernel_rfl)
theorem f60_J1_eq (G:Qe) (lo:Nat) (a b f m g i j bu bg bf cm ba cz cc M ck ca bq bz bv c7 cw n cr bk bt bn bw cn ch co ct ci ce cb cj c8 cd dh df bl:DV) (σ:Qa):f60_J1 G lo a b f m g i j bu bg bf cm ba cz cc M ck ca bq bz bv c7 cw n cr bk bt bn bw cn ch co ct ci ce cb cj c8 cd dh df bl σ =
 (binOp PP .add 3 j I1).bind fun br=>
 f60_L3 G lo a b f m g i br σ:=by kernel_rfl
theorem f60_L4_eq (G:Qe) (hG:Qo G) (lo:Nat) (a b f m g i l:DV) (σ:Qa):f60_L4 G lo a b f m g i l σ =
 (len PP 81 m σ).bind fun dt=>
 (binOp PP .lss 3 l dt).bind fun dz=>
 Qh dz
 (
 (Qg CC (DV.fn 62 []) [a,l] σ).bind fun ea=>
 Qh ea
 (
 (fieldAddr PP 33 g 0).bind fun dd=>
 (fieldAddr PP 25 dd 1).bind fun dx=>
 (load PP 22 dx σ).bind fun am=>
 (indexAddr PP 22 i l).bind fun du=>
 (load PP 3 du σ).bind fun di=>
 (buildSlice PP none 22 1 [(0,di)] σ).bind fun r117_22=>
 (append PP lo false 22 22 am r117_22.1 r117_22.2).bind fun r118_23=>
 (fieldAddr PP 33 g 0).bind fun ef=>
 (fieldAddr PP 25 ef 1).bind fun cg=>
 (store PP lo 22 cg r118_23.1 r118_23.2).bind fun σ24=>
 f60_J2 G lo a b f m g i l l m dt dz a l ea dd dx am i l du di r117_22.1 r118_23.1 ef cg σ24
 )
 (
 f60_J2 G lo a b f m g i l l m dt dz a l ea Z Z Z Z Z Z Z Z Z Z Z σ
 )
 )
 (
 f60_L5 G lo b f m g i I0 σ
 ):=(Ql G hG).trans (by kernel_rfl)
theorem f60_J2_eq (G:Qe) (lo:Nat) (a b f m g i l dl ei dt dz dk dj ea dd dx am c9 ek du di cp eu ef cg:DV) (σ:Qa):f60_J2 G lo a b f m g i l dl ei dt dz dk dj ea dd dx am c9 ek du di cp eu ef cg σ =
 (binOp PP .add 3 l I1).bind fun ej=>
 f60_L4 G lo a b f m g i ej σ:=by kernel_rfl
theorem f60_L5_eq (G:Qe) (hG:Qo G) (lo:Nat) (b f m g i q:DV) (σ:Qa):f60_L5 G lo b f m g i q σ =
 (len PP 81 m σ).bind fun dq=>
 (binOp PP .lss 3 q dq).bind fun ez=>
 Qh ez
 (
 f60_L6 G lo b f m g i q I0 σ
 )
 (
 (load PP 33 g σ).bind fun gh=>
 (store PP lo 33 f gh σ).bind fun σ36=>
 (Vy PP 33 f σ36).bind fun v0=>
 some (v0,σ36)
 ):=(Ql G hG).trans (by kernel_rfl)
theorem f60_L6_eq (G:Qe) (hG:Qo G) (lo:Nat) (b f m g i q w:DV) (σ:Qa):f60_L6 G lo b f m g i q w σ =
 (len PP 81 m σ).bind fun de=>
 (binOp PP .lss 3 w de).bind fun dw=>
 G _ dw true (some (m,σ)) σ fun eq σ25=>
 G _ dw true (some (q,σ25)) σ25 fun eg σ26=>
 Gp G dw true (indexAddr PP 81 eq eg) σ26 fun eh σ27=>
 Gp G dw true (load PP 4 eh σ27) σ27 fun f0 σ28=>
 (Qt dw f0 (DV.p (PV.bool false))).bind fun dg=>
 Qh dg
 (
 f60_L7 G lo b f m g i q w I0 σ28
 )
 (
 (binOp PP .add 3 q I1).bind fun ee=>
 f60_L5 G lo b f m g i ee σ28
 ):=(Ql G hG).trans (by kernel_rfl)
theorem f60_L7_eq (G:Qe) (hG:Qo G) (lo:Nat) (b f m g i q w F:DV) (σ:Qa):f60_L7 G lo b f m g i q w F σ =
 (binOp PP .lss 3 F (DV.p (PV.int IntKind.i64 (12)))).bind fun dr=>
 G _ dr true (some (m,σ)) σ fun dp σ29=>
 G _ dr true (some (w,σ29)) σ29 fun fj σ30=>
 Gp G dr true (indexAddr PP 81 dp fj) σ30 fun f7 σ31=>
 Gp G dr true (load PP 4 f7 σ31) σ31 fun fk σ32=>
 (Qt dr fk (DV.p (PV.bool false))).bind fun fl=>
 Qh fl
 (
 (build PP 109 [(0,q),(1,w),(2,F)]).bind fun fp=>
 (Qg CC (DV.fn 94 []) [b,fp] σ32).bind fun fq=>
 Qh fq
 (
 (fieldAddr PP 33 g 0).bind fun fa=>
 (fieldAddr PP 25 fa 2).bind fun fb=>
 (load PP 23 fb σ32).bind fun fg=>
 (indexAddr PP 22 i q).bind fun fc=>
 (load PP 3 fc σ32).bind fun fy=>
 (indexAddr PP 22 i w).bind fun fu=>
 (load PP 3 fu σ32).bind fun fv=>
 (build PP 69 [(0,fy),(1,fv),(2,F)]).bind fun fw=>
 (buildSlice PP none 23 1 [(0,fw)] σ32).bind fun r168_33=>
 (append PP lo false 23 23 fg r168_33.1 r168_33.2).bind fun r169_34=>
 (fieldAddr PP 33 g 0).bind fun f8=>
 (fieldAddr PP 25 f8 2).bind fun fx=>
 (store PP lo 23 fx r169_34.1 r169_34.2).bind fun σ35=>
 f60_J3 G lo b f m g i q w F F dr dr dp fj f7 fk fl b q w F fp fq fa fb fg i q fc fy i w fu fv F fw r168_33.1 r169_34.1 f8 fx σ35
 )
 (
 f60_J3 G lo b f m g i q w F F dr dr dp fj f7 fk fl b q w F fp fq Z Z Z Z Z Z Z Z Z Z Z Z Z Z Z Z Z σ32
 )
 )
 (
 (binOp PP .add 3 w I1).bind fun dy=>
 f60_L6 G lo b f m g i q dy σ32
 ):=(Ql G hG).trans (by kernel_rfl)
theorem f60_J3_eq (G:Qe) (lo:Nat) (b f m g i q w F da dr fi dp fj f7 fk fl gc gd fm fo fp fq fa fb fg fz gf fc fy ft gg fu fv g9 fw gi fh f8 fx:DV) (σ:Qa):f60_J3 G lo b f m g i q w F da dr fi dp fj f7 fk fl gc gd fm fo fp fq fa fb fg fz gf fc fy ft gg fu fv g9 fw gi fh f8 fx σ =
 (binOp PP .add 3 F I1).bind fun i4=>
 f60_L7 G lo b f m g i q w i4 σ:=by kernel_rfl
theorem F60_eq (G:Qe) (lo:Nat) (a b:DV) (σ:Qa):F60 G lo a b σ =
 (Qx PP 33).bind fun z4=>
 (makeSlice PP false 81 (DV.p (PV.int IntKind.i64 (240))) (DV.p (PV.int IntKind.i64 (240))) (σ++[Row.mix z4])).bind fun r16_1=>
 f60_L0 G lo a b (DV.ptr (List.length σ) 0) r16_1.1 I0 r16_1.2:=by kernel_rfl
theorem F60_call {lo:Nat} {a b:DV} (h:F60 Qb lo a b σ=some r):CC lo 60 [a,b] σ=some r:=
 callL_run Tryz.func60 (by decide +kernel) rfl (by decide +kernel) h
end
end Go.D
end
/- Chapter 22: the reference's extended graph: what is reached. -/
section
set_option linter.unusedVariables false
set_option linter.unusedSimpArgs false
namespace Go.D.StS
open Go.D.Srt
theorem zero4:Qx PP 4=some [.p (.bool false)]:=Eq.trans (by kernel_rfl) rfl
theorem bytes4:bytes? PP 4=some 1:=Eq.trans (by kernel_rfl) rfl
theorem u81:PP.underlying 81=some (.slice 4):=Eq.trans (by kernel_rfl) rfl
theorem dups_one {α:Type} (x:α):∀ n,dups [x] n=List.replicate n x
 | 0=>rfl
 | n+1=>by simp [dups,dups_one x n,List.replicate_succ]
theorem pures_bools (n:Nat):Vg (List.replicate n (.p (.bool false)))=some (Ws (List.replicate n false)):=by
 have:=ZN (Ws (List.replicate n false))
 simpa [Ws] using this
theorem pures_ints (n:Nat):Vg (List.replicate n (.p (pI 0)))=some (Qr (List.replicate n 0)):=by
 have:=ZN (Qr (List.replicate n 0))
 simpa [Qr] using this
theorem mk81 {n:Nat} (h:n<=1000) (σ:Qa):makeSlice PP false 81 (.p (.int .i64 (n:Nat))) (.p (.int .i64 (n:Nat))) σ=some (.rsl σ.length 1 0 n,σ++[.arr (Ws (List.replicate n false))]):=by
 have h1:(n:Int)<=140737488355328:=by omega
 simp [makeSlice,u81,s4,bytes4,zero4,h1,newRow,dups_one,pures_bools]
theorem mk22 {n:Nat} (h:n<=1000) (σ:Qa):makeSlice PP false 22 (.p (.int .i64 (n:Nat))) (.p (.int .i64 (n:Nat))) σ=some (.rsl σ.length 1 0 n,σ++[.arr (Qr (List.replicate n 0))]):=by
 have h1:(n:Int)<=140737488355328:=by omega
 have h2:8*(n:Int)<=140737488355328:=by omega
 simp [makeSlice,u22,s3,VO,Uy,h1,h2,newRow,dups_one,pures_ints]
theorem Jh {r n:Nat} {i:Int} (h0:0<=i) (h:i.toNat<n):indexAddr PP 81 (.rsl r 1 0 n) (.p (.int .i64 i))=some (.ptr r i.toNat):=by
 have h2:(0:Int)<=i/\i<(n:Nat):=by omega
 simp [indexAddr,u81,s4,h2]
theorem idx22a {r n:Nat} {i:Int} (h0:0<=i) (h:i.toNat<n):indexAddr PP 22 (.rsl r 1 0 n) (.p (.int .i64 i))=some (.ptr r i.toNat):=by
 have h2:(0:Int)<=i/\i<(n:Nat):=by omega
 simp [indexAddr,u22,s3,h2]
theorem Up (r n:Nat) (σ:Qa):len PP 81 (.rsl r 1 0 n) σ=some (.p (.int .i64 (n:Nat))):=by simp [len,u81]
theorem drop_one {α:Type} {l:List α} {i:Nat} {x:α} (h:l[i]?=some x):(l.drop i).take 1=[x]:=by
 obtain ⟨h1,h2⟩:=List.getElem?_eq_some_iff.1 h
 rw [List.drop_eq_getElem_cons h1,h2]; rfl
theorem ldArr {σ:Qa} {r t:Nat} {l:List PV} {v:PV} (h:σ[r]?=some (.arr l)) (ht:l[t]?=some v):ZX (.ptr r t) σ=some (.p v):=by
 have h1:t+1<=l.length:=(List.getElem?_eq_some_iff.1 ht).1
 have h2:=drop_one ht
 simp [ZX,Wl,h,h1,h2]
theorem UP {σ:Qa} {r t:Nat} {S:List Bool} (h:σ[r]?=some (.arr (Ws S))) (ht:t<S.length):ZX (.ptr r t) σ=some (.p (.bool (S.getD t false))):=
 ldArr h (by simp [Ws,List.getD_eq_getElem?_getD,ht])
theorem ldInt {σ:Qa} {r t:Nat} {l:List Int} (h:σ[r]?=some (.arr (Qr l))) (ht:t<l.length):ZX (.ptr r t) σ=some (.p (.int .i64 (l.getD t 0))):=
 ldArr h (by simp [Qr,List.getD_eq_getElem?_getD,ht])
theorem stArr {σ:Qa} {r t:Nat} {l:List PV} {v:PV} (h:σ[r]?=some (.arr l)) (ht:t<l.length):Zo 0 [.p v] σ (.ptr r t)=some (σ.set r (.arr (l.set t v))):=by
 have h1:t+1<=l.length:=ht
 have h2:QS l t [v]=l.set t v:=by
  unfold QS
  rw [List.set_eq_take_append_cons_drop]
  simp [ht]
 simp [Zo,h,Vg,DV.pure?,h1,h2]
theorem st4 {σ:Qa} {r t:Nat} {S:List Bool} {b:Bool} (h:σ[r]?=some (.arr (Ws S))) (ht:t<S.length):store PP 0 4 (.ptr r t) (.p (.bool b)) σ=some (σ.set r (.arr (Ws (S.set t b)))):=by
 have h1:=stArr (v:=.bool b) h (show t<(Ws S).length by rw [bools_length]; exact ht)
 have e:(DV.p (.bool b)).cells=[.p (.bool b)]:=rfl
 have e2:(Ws S).set t (.bool b)=Ws (S.set t b):=by simp [Ws,List.map_set]
 rw [e2] at h1
 simp only [store,s4,e,List.length_cons,List.length_nil,if_true]
 exact h1
theorem st3a {σ:Qa} {r t:Nat} {l:List Int} {b:Int} (h:σ[r]?=some (.arr (Qr l))) (ht:t<l.length):store PP 0 3 (.ptr r t) (.p (.int .i64 b)) σ=some (σ.set r (.arr (Qr (l.set t b)))):=by
 have h1:=stArr (v:=.int .i64 b) h (show t<(Qr l).length by rw [ints_length]; exact ht)
 have e:(DV.p (.int .i64 b)).cells=[.p (.int .i64 b)]:=rfl
 have e2:(Qr l).set t (.int .i64 b)=Qr (l.set t b):=by simp [Qr,List.map_set]
 rw [e2] at h1
 simp only [store,s3,e,List.length_cons,List.length_nil,if_true]
 exact h1
theorem u106:PP.underlying 106=some (.slice 109):=Eq.trans (by kernel_rfl) rfl
theorem s109:size? PP 109=some 3:=Eq.trans (by kernel_rfl) rfl
theorem fa109_0 (x:DV):fieldAddr PP 109 x 0=QL x 0:=Eq.trans (by kernel_rfl) rfl
theorem fa109_1 (x:DV):fieldAddr PP 109 x 1=QL x 1:=Eq.trans (by kernel_rfl) rfl
theorem UO (q:OE) (σ:Qa):len PP 106 (.p (eEs q)) σ=some (.p (.int .i64 ((L q).length:Nat))):=by cases q <;> simp [len,u106,eEs]
theorem idx106 {q:OE} {i:Nat} (h:i<(L q).length):indexAddr PP 106 (.p (eEs q)) (.p (.int .i64 (i:Nat)))=some (.pptr (Zd (L q)) (i*3)):=by
 cases q with
 | none=>exact absurd h (by simp [L])
 | some l=>
  have h2:(0:Int)<=(i:Int)/\(i:Int)<(l.length:Nat):=by
   simp only [L,Option.getD_some] at h; omega
  simp [indexAddr,u106,s109,eEs,h2,L]
structure MvOk (l:List Int) (q:List Edg):Prop where
 f:∀ v∈l,0<=v/\v<240
 m:∀ e∈q,(0<=e.f/\e.f<240)/\(0<=e.t/\e.t<240)/\(0<=e.a/\e.a<=11)
 ll:l.length<=1000
 ql:q.length<=10000
inductive RchB (l:List Int) (q:List Edg):Int->Prop
 | init {v:Int}:v∈l->RchB l q v
 | step {e:Edg}:RchB l q e.f->e∈q->RchB l q e.t
def Z5:List DV:=[.p (pI 0),.p .nilsl,.p .nilsl,.p .nilsl,.p .nilsl]
def st2 (S:List Bool):Qa:=[.mix Z5,.arr (Ws S)]
def SD (S:List Bool) (v:Int):Bool:=S.getD v.toNat false
def SndB (l:List Int) (q:List Edg) (S:List Bool):Prop:=∀ n,n<240->S.getD n false=true->RchB l q (n:Int)
theorem set_getD (S:List Bool) {t:Nat} (ht:t<S.length) (n:Nat):(S.set t true).getD n false=if t=n then true else S.getD n false:=by
 rw [List.getD_eq_getElem?_getD,List.getElem?_set,List.getD_eq_getElem?_getD]
 by_cases h:t=n
 ·subst h; simp [ht]
 ·simp [h]
section
variable {o : OI} {q : OE} (hk : MvOk (L o) (L q))
include hk
theorem bl_L0:∀ (d i:Nat) (S:List Bool),(L o).length-i=d->i<=(L o).length->S.length=240->SndB (L o) (L q) S->(∀ j,j<i->SD S ((L o).getD j 0)=true)->
  ∃ S',f60_L0 Qb 0 (.p (eSl o)) (.p (eEs q)) (.ptr 0 0) (.rsl 1 1 0 240) (N i) (st2 S)=f60_L1 Qb 0 (.p (eSl o)) (.p (eEs q)) (.ptr 0 0) (.rsl 1 1 0 240) (.p (.bool true)) (st2 S')/\
   S'.length=240/\SndB (L o) (L q) S'/\(∀ j,j<(L o).length->SD S' ((L o).getD j 0)=true)
 | 0,i,S,hd,hi,hS,hs,hf=>by
  have hll:=hk.ll
  refine ⟨S,?_,hS,hs,fun j hj=>hf j (by omega)⟩
  rw [f60_L0_eq Qb rfl]
  simp (disch:=omega) only [N,QZ,Qn,ltF,gG]
 | d+1,i,S,hd,hi,hS,hs,hf=>by
  have hll:=hk.ll
  have hil:i<(L o).length:=by omega
  have hv:=hk.f _ (List.getElem_mem hil)
  rw [<-Zp 0 hil] at hv
  have ix:=ZS (o:=o) (i:=i) hil
  have ld:=QC (l:=L o) hil (st2 S)
  simp only [pI] at ld
  have ixs:=Jh (r:=1) (n:=240) hv.1 (by omega)
  have w1:(st2 S)[1]?=some (.arr (Ws S)):=rfl
  have hst:=st4 (b:=true) w1 (t:=((L o).getD i 0).toNat) (by omega)
  have e2:(st2 S).set 1 (.arr (Ws (S.set ((L o).getD i 0).toNat true)))=st2 (S.set ((L o).getD i 0).toNat true):=rfl
  rw [e2] at hst
  have htl:((L o).getD i 0).toNat<S.length:=by omega
  obtain ⟨S',r1,r2⟩:=bl_L0 d (i+1) (S.set ((L o).getD i 0).toNat true) (by omega) (by omega) (by simpa using hS) (fun n hn hh=>by
   rw [set_getD S htl] at hh
   by_cases e:((L o).getD i 0).toNat=n
   ·have:((n:Nat):Int)=(L o).getD i 0:=by omega
    rw [this,Zp 0 hil]
    exact .init (List.getElem_mem hil)
   ·rw [if_neg e] at hh
    exact hs n hn hh) (fun j hj=>by
   unfold SD
   rw [set_getD S htl]
   by_cases e:((L o).getD i 0).toNat=((L o).getD j 0).toNat
   ·rw [if_pos e]
   ·rw [if_neg e]
    refine hf j ?_
    by_cases e3:j=i
    ·subst e3; exact absurd rfl e
    ·omega)
  refine ⟨S',?_,r2⟩
  rw [<-r1,f60_L0_eq Qb rfl]
  simp (disch:=omega) only [N,QZ,Qn,ltT,gG,ix,QF,ld,ixs,hst,add1]
def Sub (S S':List Bool):Prop:=∀ n,S.getD n false=true->S'.getD n false=true
def cntT (S:List Bool):Nat:=S.countP id
omit hk in
theorem cnt_set {S:List Bool} {t:Nat} (ht:t<S.length) (h:S.getD t false=false):cntT (S.set t true)=cntT S+1:=by
 have e:S=S.take t++(S[t]::S.drop (t+1)):=by rw [<-List.drop_eq_getElem_cons ht,List.take_append_drop]
 have h2:S[t]=false:=by rw [<-h,List.getD_eq_getElem?_getD,List.getElem?_eq_getElem ht]; rfl
 unfold cntT
 rw [List.set_eq_take_append_cons_drop,if_pos ht,List.countP_append,List.countP_cons_of_pos rfl]
 conv=>rhs; rw [e]
 rw [List.countP_append,h2,List.countP_cons_of_neg (by simp)]
 omega
theorem bl_L2:∀ (d i:Nat) (S:List Bool) (ag:Bool),(L q).length-i=d->i<=(L q).length->S.length=240->SndB (L o) (L q) S->
  ∃ S' ag',f60_L2 Qb 0 (.p (eSl o)) (.p (eEs q)) (.ptr 0 0) (.rsl 1 1 0 240) (.p (.bool ag)) (N i) (st2 S)=f60_L1 Qb 0 (.p (eSl o)) (.p (eEs q)) (.ptr 0 0) (.rsl 1 1 0 240) (.p (.bool ag')) (st2 S')/\
   S'.length=240/\SndB (L o) (L q) S'/\Sub S S'/\cntT S<=cntT S'/\(ag'=true->ag=true\/cntT S<cntT S')/\(ag'=false->S'=S/\∀ j,i<=j->j<(L q).length->SD S (gE (L q) j).f=true->SD S (gE (L q) j).t=true)/\(ag=true->ag'=true)
 | 0,i,S,ag,hd,hi,hS,hs=>by
  have hql:=hk.ql
  refine ⟨S,ag,?_,hS,hs,fun n h=>h,Nat.le_refl _,fun h=>.inl h,fun h=>⟨rfl,fun j h1 h2=>by omega⟩,fun h=>h⟩
  rw [f60_L2_eq Qb rfl]
  simp (disch:=omega) only [N,UO,Qn,ltF,gG]
 | d+1,i,S,ag,hd,hi,hS,hs=>by
  have hql:=hk.ql
  have hil:i<(L q).length:=by omega
  have hv:=hk.m _ (List.getElem_mem hil)
  rw [<-Vw hil] at hv
  obtain ⟨v1,v2,v3⟩:=hv
  have ix:=idx106 (q:=q) (i:=i) hil
  have lf:=ldEf hil (st2 S)
  have lt:=ldEt hil (st2 S)
  have ixf:=Jh (r:=1) (n:=240) v1.1 (by omega)
  have ixt:=Jh (r:=1) (n:=240) v2.1 (by omega)
  have w1:(st2 S)[1]?=some (.arr (Ws S)):=rfl
  have lbf:=UP w1 (t:=(gE (L q) i).f.toNat) (by omega)
  have lbt:=UP w1 (t:=(gE (L q) i).t.toNat) (by omega)
  have htl:(gE (L q) i).t.toNat<S.length:=by omega
  have hst:=st4 (b:=true) w1 (t:=(gE (L q) i).t.toNat) (by omega)
  have e2:(st2 S).set 1 (.arr (Ws (S.set (gE (L q) i).t.toNat true)))=st2 (S.set (gE (L q) i).t.toNat true):=rfl
  rw [e2] at hst
  cases hf:S.getD (gE (L q) i).f.toNat false with
  | false=>
   obtain ⟨S',ag',r1,r2,r3,r4,r5,r6,r7,r8⟩:=bl_L2 d (i+1) S ag (by omega) (by omega) hS hs
   refine ⟨S',ag',?_,r2,r3,r4,r5,r6,fun h=>⟨(r7 h).1,fun j h1 h2 h3=>?_⟩,r8⟩
   ·rw [<-r1,f60_L2_eq Qb rfl]
    rw [hf] at lbf
    simp (disch:=omega) only [N,UO,Qn,ltT,gG,ix,fa109_0,gP,QF,lf,ixf,UM,lbf,f60_J0_eq,add1]
   ·by_cases e:j=i
    ·subst e; unfold SD at h3; rw [hf] at h3; exact absurd h3 (by decide)
    ·exact (r7 h).2 j (by omega) h2 h3
  | true=>
   cases ht:S.getD (gE (L q) i).t.toNat false with
   | true=>
    obtain ⟨S',ag',r1,r2,r3,r4,r5,r6,r7,r8⟩:=bl_L2 d (i+1) S ag (by omega) (by omega) hS hs
    refine ⟨S',ag',?_,r2,r3,r4,r5,r6,fun h=>⟨(r7 h).1,fun j h1 h2 h3=>?_⟩,r8⟩
    ·rw [<-r1,f60_L2_eq Qb rfl]
     rw [hf] at lbf
     rw [ht] at lbt
     simp (disch:=omega) only [N,UO,Qn,ltT,gG,ix,fa109_0,fa109_1,gP,QF,lf,lt,ixf,ixt,UM,lbf,lbt,f60_J0_eq,add1]
    ·by_cases e:j=i
     ·subst e; exact ht
     ·exact (r7 h).2 j (by omega) h2 h3
   | false=>
    have hc:=cnt_set htl ht
    obtain ⟨S',ag',r1,r2,r3,r4,r5,r6,r7,r8⟩:=bl_L2 d (i+1) (S.set (gE (L q) i).t.toNat true) true (by omega) (by omega) (by simpa using hS) (fun n hn hh=>by
     rw [set_getD S htl] at hh
     by_cases e:(gE (L q) i).t.toNat=n
     ·have e1:((n:Nat):Int)=(gE (L q) i).t:=by omega
      have e3:=hs (gE (L q) i).f.toNat (by omega) hf
      rw [e1]
      have e4:(((gE (L q) i).f.toNat:Nat):Int)=(gE (L q) i).f:=by omega
      rw [e4] at e3
      exact .step e3 (by rw [Vw hil]; exact List.getElem_mem hil)
     ·rw [if_neg e] at hh
      exact hs n hn hh)
    have hsub:Sub S (S.set (gE (L q) i).t.toNat true):=fun n h=>by
     rw [set_getD S htl]
     split
     ·rfl
     ·exact h
    have hag:ag'=true:=r8 rfl
    refine ⟨S',ag',?_,r2,r3,fun n h=>r4 n (hsub n h),by omega,fun _=>.inr (by omega),fun h=>by rw [hag] at h; exact absurd h (by decide),fun _=>hag⟩
    rw [<-r1,f60_L2_eq Qb rfl]
    rw [hf] at lbf
    rw [ht] at lbt
    simp (disch:=omega) only [N,UO,Qn,ltT,gG,ix,fa109_0,fa109_1,gP,QF,lf,lt,ixf,ixt,UM,lbf,lbt,hst,f60_J0_eq,add1]
theorem bl_L1:∀ (d:Nat) (S:List Bool),240-cntT S<=d->S.length=240->SndB (L o) (L q) S->
  ∃ S',f60_L1 Qb 0 (.p (eSl o)) (.p (eEs q)) (.ptr 0 0) (.rsl 1 1 0 240) (.p (.bool true)) (st2 S)=f60_L3 Qb 0 (.p (eSl o)) (.p (eEs q)) (.ptr 0 0) (.rsl 1 1 0 240) (.ptr 2 0) (.rsl 3 1 0 240) (N 0) (st2 S'++[.mix Z5,.arr (Qr (List.replicate 240 0))])/\
   S'.length=240/\SndB (L o) (L q) S'/\Sub S S'/\(∀ e∈L q,SD S' e.f=true->SD S' e.t=true):=by
 intro d
 induction d with
 | zero=>
  intro S hd hS hs
  obtain ⟨S',ag',r1,r2,r3,r4,r5,r6,r7,r8⟩:=bl_L2 hk _ 0 S false rfl (Nat.zero_le _) hS hs
  have hc:cntT S'<=240:=by rw [<-r2]; exact List.countP_le_length
  cases ag' with
  | true=>
   rcases r6 rfl with h | h
   ·exact absurd h (by decide)
   ·omega
  | false=>
   obtain ⟨rfl,h7⟩:=r7 rfl
   refine ⟨S',?_,r2,r3,r4,fun e he=>?_⟩
   ·rw [f60_L1_eq Qb rfl]
    simp only [gG]
    refine r1.trans ?_
    rw [f60_L1_eq Qb rfl]
    have e1:(st2 S'++[Row.mix Z5]).length=3:=rfl
    have e2:(st2 S').length=2:=rfl
    have hmk:=mk22 (n:=240) (by decide) (st2 S'++[.mix Z5])
    have hz:Qx PP 33=some Z5:=Ut
    rw [e1] at hmk
    simp only [gG,hz,Up,hmk,e2,List.append_assoc,List.cons_append,List.nil_append]
    rfl
   ·obtain ⟨j,hj,rfl⟩:=List.getElem_of_mem he
    have:=h7 j (Nat.zero_le _) hj
    rwa [Vw hj] at this
 | succ d ih=>
  intro S hd hS hs
  obtain ⟨S',ag',r1,r2,r3,r4,r5,r6,r7,r8⟩:=bl_L2 hk _ 0 S false rfl (Nat.zero_le _) hS hs
  have hc:cntT S'<=240:=by rw [<-r2]; exact List.countP_le_length
  cases ag' with
  | true=>
   rcases r6 rfl with h | h
   ·exact absurd h (by decide)
   ·obtain ⟨S2,w1,w2,w3,w4,w5⟩:=ih S' (by omega) r2 r3
    refine ⟨S2,?_,w2,w3,fun n hn=>w4 n (r4 n hn),w5⟩
    rw [<-w1,<-r1,f60_L1_eq Qb rfl]
    simp only [gG]
    rfl
  | false=>
   obtain ⟨rfl,h7⟩:=r7 rfl
   refine ⟨S',?_,r2,r3,r4,fun e he=>?_⟩
   ·rw [f60_L1_eq Qb rfl]
    simp only [gG]
    refine r1.trans ?_
    rw [f60_L1_eq Qb rfl]
    have e1:(st2 S'++[Row.mix Z5]).length=3:=rfl
    have e2:(st2 S').length=2:=rfl
    have hmk:=mk22 (n:=240) (by decide) (st2 S'++[.mix Z5])
    have hz:Qx PP 33=some Z5:=Ut
    rw [e1] at hmk
    simp only [gG,hz,Up,hmk,e2,List.append_assoc,List.cons_append,List.nil_append]
    rfl
   ·obtain ⟨j,hj,rfl⟩:=List.getElem_of_mem he
    have:=h7 j (Nat.zero_le _) hj
    rwa [Vw hj] at this
theorem bl_seen:∃ S,S.length=240/\(∀ v,0<=v->v<240->(SD S v=true↔RchB (L o) (L q) v))/\
  F60 Qb 0 (.p (eSl o)) (.p (eEs q)) []=f60_L3 Qb 0 (.p (eSl o)) (.p (eEs q)) (.ptr 0 0) (.rsl 1 1 0 240) (.ptr 2 0) (.rsl 3 1 0 240) (N 0) (st2 S++[.mix Z5,.arr (Qr (List.replicate 240 0))]):=by
 have e0:∀ n,(List.replicate 240 false).getD n false=false:=fun n=>by
  rw [List.getD_eq_getElem?_getD,List.getElem?_replicate]; split <;> rfl
 obtain ⟨S1,a1,a2,a3,a4⟩:=bl_L0 hk _ 0 (List.replicate 240 false) rfl (Nat.zero_le _) (List.length_replicate) (fun n _ h=>by rw [e0] at h; exact absurd h (by decide)) (fun j hj=>by omega)
 obtain ⟨S,b1,b2,b3,b4,b5⟩:=bl_L1 hk 240 S1 (by omega) a2 a3
 refine ⟨S,b2,fun v h0 h1=>⟨fun h=>?_,fun h=>?_⟩,?_⟩
 ·have:=b3 v.toNat (by omega) h
  rwa [Int.toNat_of_nonneg h0] at this
 ·clear h0 h1
  induction h with
  | init hv=>
   obtain ⟨j,hj,rfl⟩:=List.getElem_of_mem hv
   have:=b4 _ (a4 j hj)
   rwa [Zp 0 hj] at this
  | step _ he ih=>exact b5 _ he ih
 ·have hz:Qx PP 33=some Z5:=Ut
  have hmk:=mk81 (n:=240) (by decide) [Row.mix Z5]
  rw [F60_eq]
  simp only [hz,gG,List.nil_append,List.length_nil]
  have hmk2:makeSlice PP false 81 (.p (.int .i64 240)) (.p (.int .i64 240)) [Row.mix Z5]=some (.rsl 1 1 0 240,st2 (List.replicate 240 false)):=hmk
  rw [hmk2]
  exact a1.trans b1
end
end Go.D.StS
end
/- Equations of functions 58, 93, 59, 94, 20, 64, 24, 21, 19, 23, 15, 3, printed by gen.py. -/
section
set_option linter.unusedVariables false
set_option maxRecDepth 10000
namespace Go.D
open Go.Proofs
noncomputable section
variable (G:Qe) (lo:Nat) {σ:Qa} {r:DV×Qa}
open _root_.Go.D.Code (fstC sndC)
open _root_.Go.D.Ann (left right)
def c58_0:Code:=Qs Tryz.f58
def a58_0:Ann:=(pol 58).ann
def F58 (a b:DV) (σ:Qa):RS:=
 Qm G PP (pol 58) CC lo c58_0 a58_0 (a::b::zn 22 []) σ (finR PP Tryz.f58.results.toList)
theorem F58_eq (G:Qe) (lo:Nat) (a b:DV) (σ:Qa):F58 G lo a b σ =
 (boxV a).bind fun z2=>
 (boxV b).bind fun z3=>
 (fieldAddr PP 33 (DV.ptr (List.length σ) 0) 0).bind fun m=>
 (load PP 25 m ((σ++[Row.mix z2])++[Row.mix z3])).bind fun O=>
 (fieldAddr PP 33 (DV.ptr (List.length (σ++[Row.mix z2])) 0) 0).bind fun H=>
 (load PP 25 H ((σ++[Row.mix z2])++[Row.mix z3])).bind fun k=>
 (Qg CC (DV.fn 93 []) [O,k] ((σ++[Row.mix z2])++[Row.mix z3])).bind fun g=>
 Gp G g true (fieldAddr PP 33 (DV.ptr (List.length σ) 0) 1) ((σ++[Row.mix z2])++[Row.mix z3]) fun j σ1=>
 Gp G g true (load PP 22 j σ1) σ1 fun l σ2=>
 Gp G g true (fieldAddr PP 33 (DV.ptr (List.length (σ++[Row.mix z2])) 0) 1) σ2 fun q σ3=>
 Gp G g true (load PP 22 q σ3) σ3 fun w σ4=>
 Gp G g true (Qg CC (DV.fn 34 []) [l,w] σ4) σ4 fun F σ5=>
 (Qt g F (DV.p (PV.bool false))).bind fun ah=>
 Gp G ah true (fieldAddr PP 33 (DV.ptr (List.length σ) 0) 2) σ5 fun af σ6=>
 Gp G ah true (load PP 22 af σ6) σ6 fun b8 σ7=>
 Gp G ah true (fieldAddr PP 33 (DV.ptr (List.length (σ++[Row.mix z2])) 0) 2) σ7 fun Q σ8=>
 Gp G ah true (load PP 22 Q σ8) σ8 fun u σ9=>
 Gp G ah true (Qg CC (DV.fn 34 []) [b8,u] σ9) σ9 fun o σ10=>
 (Qt ah o (DV.p (PV.bool false))).bind fun z=>
 some (z,σ10):=by kernel_rfl
theorem F58_call {lo:Nat} {a b:DV} (h:F58 Qb lo a b σ=some r):CC lo 58 [a,b] σ=some r:=
 callL_run Tryz.func58 (by decide +kernel) rfl (by decide +kernel) h
def c93_0:Code:=Qs Tryz.f93
def a93_0:Ann:=(pol 93).ann
def a93_13:Ann:=right (left (right (right a93_0)))
def a93_14:Ann:=left a93_13
def c93_15:Code:=fstC (fstC (sndC (fstC (sndC (sndC c93_0)))))
def c93_31:Code:=sndC (sndC (sndC c93_0))
def a93_31:Ann:=right (right (right a93_0))
def f93_L0 (c d m:DV) (σ:Qa):RS:=
 Qm G PP (pol 93) CC lo (.loop c93_15) a93_14 (Z::Z::c::d::Z::m::zn 40 []) σ
 (Qf 0 a93_13 (seqC G PP (pol 93) CC lo c93_31 a93_31 (finR PP Tryz.f93.results.toList)))
def F93 (a b:DV) (σ:Qa):RS:=
 Qm G PP (pol 93) CC lo c93_0 a93_0 (a::b::zn 44 []) σ (finR PP Tryz.f93.results.toList)
theorem f93_L0_eq (G:Qe) (hG:Qo G) (lo:Nat) (c d m:DV) (σ:Qa):f93_L0 G lo c d m σ =
 (fieldAddr PP 25 c 2).bind fun S=>
 (load PP 23 S σ).bind fun aw=>
 (len PP 23 aw σ).bind fun B=>
 (binOp PP .lss 3 m B).bind fun I=>
 Qh I
 (
 (fieldAddr PP 25 c 2).bind fun ai=>
 (load PP 23 ai σ).bind fun aj=>
 (indexAddr PP 23 aj m).bind fun Y=>
 (load PP 69 Y σ).bind fun L=>
 (fieldAddr PP 25 d 2).bind fun C=>
 (load PP 23 C σ).bind fun x=>
 (indexAddr PP 23 x m).bind fun X=>
 (load PP 69 X σ).bind fun P=>
 (binOp PP .neq 69 L P).bind fun N=>
 Qh N
 (
 some ((DV.p (PV.bool false)),σ)
 )
 (
 (binOp PP .add 3 m I1).bind fun V=>
 f93_L0 G lo c d V σ
 )
 )
 (
 some ((DV.p (PV.bool true)),σ)
 ):=(Ql G hG).trans (by kernel_rfl)
theorem F93_eq (G:Qe) (lo:Nat) (a b:DV) (σ:Qa):F93 G lo a b σ =
 (boxV a).bind fun z2=>
 (boxV b).bind fun z3=>
 (fieldAddr PP 25 (DV.ptr (List.length σ) 0) 0).bind fun O=>
 (load PP 3 O ((σ++[Row.mix z2])++[Row.mix z3])).bind fun H=>
 (fieldAddr PP 25 (DV.ptr (List.length (σ++[Row.mix z2])) 0) 0).bind fun k=>
 (load PP 3 k ((σ++[Row.mix z2])++[Row.mix z3])).bind fun g=>
 (binOp PP .neq 3 H g).bind fun i=>
 Gp G i false (fieldAddr PP 25 (DV.ptr (List.length σ) 0) 1) ((σ++[Row.mix z2])++[Row.mix z3]) fun l σ1=>
 Gp G i false (load PP 22 l σ1) σ1 fun q σ2=>
 Gp G i false (fieldAddr PP 25 (DV.ptr (List.length (σ++[Row.mix z2])) 0) 1) σ2 fun w σ3=>
 Gp G i false (load PP 22 w σ3) σ3 fun F σ4=>
 Gp G i false (Qg CC (DV.fn 34 []) [q,F] σ4) σ4 fun ah σ5=>
 Gp G i false (unOp .not ah) σ5 fun R σ6=>
 (Qt i (DV.p (PV.bool true)) R).bind fun af=>
 Gp G af false (fieldAddr PP 25 (DV.ptr (List.length σ) 0) 2) σ6 fun Q σ7=>
 Gp G af false (load PP 23 Q σ7) σ7 fun u σ8=>
 Gp G af false (len PP 23 u σ8) σ8 fun o σ9=>
 Gp G af false (fieldAddr PP 25 (DV.ptr (List.length (σ++[Row.mix z2])) 0) 2) σ9 fun z σ10=>
 Gp G af false (load PP 23 z σ10) σ10 fun K σ11=>
 Gp G af false (len PP 23 K σ11) σ11 fun A σ12=>
 Gp G af false (binOp PP .neq 3 o A) σ12 fun ac σ13=>
 (Qt af (DV.p (PV.bool true)) ac).bind fun U=>
 Qh U
 (
 some ((DV.p (PV.bool false)),σ13)
 )
 (
 f93_L0 G lo (DV.ptr (List.length σ) 0) (DV.ptr (List.length (σ++[Row.mix z2])) 0) I0 σ13
 ):=by kernel_rfl
theorem F93_call {lo:Nat} {a b:DV} (h:F93 Qb lo a b σ=some r):CC lo 93 [a,b] σ=some r:=
 callL_run Tryz.func93 (by decide +kernel) rfl (by decide +kernel) h
def c59_0:Code:=Qs Tryz.f59
def a59_0:Ann:=(pol 59).ann
def F59 (a b:DV) (σ:Qa):RS:=
 Qm G PP (pol 59) CC lo c59_0 a59_0 (a::b::zn 7 []) σ (finR PP Tryz.f59.results.toList)
theorem F59_eq (G:Qe) (lo:Nat) (a b:DV) (σ:Qa):F59 G lo a b σ =
 (binOp PP .mul 3 a (DV.p (PV.int IntKind.i64 (8)))).bind fun O=>
 (binOp PP .add 3 O b).bind fun k=>
 some (k,σ):=by kernel_rfl
theorem F59_call {lo:Nat} {a b:DV} (h:F59 Qb lo a b σ=some r):CC lo 59 [a,b] σ=some r:=
 callL_run Tryz.func59 (by decide +kernel) rfl (by decide +kernel) h
def c94_0:Code:=Qs Tryz.f94
def a94_0:Ann:=(pol 94).ann
def a94_5:Ann:=right (left (right a94_0))
def a94_6:Ann:=left a94_5
def c94_7:Code:=fstC (fstC (sndC (fstC (sndC c94_0))))
def c94_23:Code:=sndC (sndC c94_0)
def a94_23:Ann:=right (right a94_0)
def f94_L0 (a d m:DV) (σ:Qa):RS:=
 Qm G PP (pol 94) CC lo (.loop c94_7) a94_6 (a::Z::Z::d::Z::m::zn 12 []) σ
 (Qf 0 a94_5 (seqC G PP (pol 94) CC lo c94_23 a94_23 (finR PP Tryz.f94.results.toList)))
def F94 (a b:DV) (σ:Qa):RS:=
 Qm G PP (pol 94) CC lo c94_0 a94_0 (a::b::zn 16 []) σ (finR PP Tryz.f94.results.toList)
theorem f94_L0_eq (G:Qe) (hG:Qo G) (lo:Nat) (a d m:DV) (σ:Qa):f94_L0 G lo a d m σ =
 (len PP 106 a σ).bind fun k=>
 (binOp PP .lss 3 m k).bind fun g=>
 Qh g
 (
 (indexAddr PP 106 a m).bind fun w=>
 (load PP 109 w σ).bind fun F=>
 (load PP 109 d σ).bind fun ah=>
 (binOp PP .eql 109 F ah).bind fun R=>
 Qh R
 (
 some ((DV.p (PV.bool true)),σ)
 )
 (
 (binOp PP .add 3 m I1).bind fun j=>
 f94_L0 G lo a d j σ
 )
 )
 (
 some ((DV.p (PV.bool false)),σ)
 ):=(Ql G hG).trans (by kernel_rfl)
theorem F94_eq (G:Qe) (lo:Nat) (a b:DV) (σ:Qa):F94 G lo a b σ =
 (boxV b).bind fun z3=>
 f94_L0 G lo a (DV.ptr (List.length σ) 0) I0 (σ++[Row.mix z3]):=by kernel_rfl
theorem F94_call {lo:Nat} {a b:DV} (h:F94 Qb lo a b σ=some r):CC lo 94 [a,b] σ=some r:=
 callL_run Tryz.func94 (by decide +kernel) rfl (by decide +kernel) h
def c64_0:Code:=Qs Tryz.f64
def a64_0:Ann:=(pol 64).ann
def a64_5:Ann:=right (left (right a64_0))
def a64_6:Ann:=left a64_5
def c64_7:Code:=fstC (fstC (sndC (fstC (sndC c64_0))))
def c64_23:Code:=sndC (sndC c64_0)
def a64_23:Ann:=right (right a64_0)
def f64_L0 (b c d H:DV) (σ:Qa):RS:=
 Qm G PP (pol 64) CC lo (.loop c64_7) a64_6 (Z::b::c::d::Z::Z::Z::H::zn 24 []) σ
 (Qf 0 a64_5 (seqC G PP (pol 64) CC lo c64_23 a64_23 (finR PP Tryz.f64.results.toList)))
def F64 (a b c:DV) (σ:Qa):RS:=
 Qm G PP (pol 64) CC lo c64_0 a64_0 (a::b::c::zn 29 []) σ (finR PP Tryz.f64.results.toList)
theorem f64_L0_eq (G:Qe) (hG:Qo G) (lo:Nat) (b c d H:DV) (σ:Qa):f64_L0 G lo b c d H σ =
 (fieldAddr PP 33 d 1).bind fun g=>
 (load PP 22 g σ).bind fun i=>
 (len PP 22 i σ).bind fun j=>
 (binOp PP .lss 3 H j).bind fun l=>
 Qh l
 (
 (fieldAddr PP 33 d 1).bind fun F=>
 (load PP 22 F σ).bind fun ah=>
 (indexAddr PP 22 ah H).bind fun af=>
 (load PP 3 af σ).bind fun b8=>
 (binOp PP .eql 3 b8 b).bind fun u=>
 Gp G u true (fieldAddr PP 33 d 2) σ fun z σ1=>
 Gp G u true (load PP 22 z σ1) σ1 fun K σ2=>
 G _ u true (some (H,σ2)) σ2 fun A σ3=>
 Gp G u true (indexAddr PP 22 K A) σ3 fun ac σ4=>
 Gp G u true (load PP 3 ac σ4) σ4 fun U σ5=>
 G _ u true (some (c,σ5)) σ5 fun au σ6=>
 Gp G u true (binOp PP .eql 3 U au) σ6 fun S σ7=>
 (Qt u S (DV.p (PV.bool false))).bind fun aw=>
 Qh aw
 (
 some (H,σ7)
 )
 (
 (binOp PP .add 3 H I1).bind fun w=>
 f64_L0 G lo b c d w σ7
 )
 )
 (
 some ((DV.p (PV.int IntKind.i64 (-1))),σ)
 ):=(Ql G hG).trans (by kernel_rfl)
theorem F64_eq (G:Qe) (lo:Nat) (a b c:DV) (σ:Qa):F64 G lo a b c σ =
 (boxV a).bind fun z3=>
 f64_L0 G lo b c (DV.ptr (List.length σ) 0) I0 (σ++[Row.mix z3]):=by kernel_rfl
theorem F64_call {lo:Nat} {a b c:DV} (h:F64 Qb lo a b c σ=some r):CC lo 64 [a,b,c] σ=some r:=
 callL_run Tryz.func64 (by decide +kernel) rfl (by decide +kernel) h
def c21_0:Code:=Qs Tryz.f21
def a21_0:Ann:=(pol 21).ann
def F21 (a:DV) (σ:Qa):RS:=
 Qm G PP (pol 21) CC lo c21_0 a21_0 (a::zn 13 []) σ (finR PP Tryz.f21.results.toList)
theorem F21_eq (G:Qe) (lo:Nat) (a:DV) (σ:Qa):F21 G lo a σ =
 (boxV a).bind fun z1=>
 (fieldAddr PP 33 (DV.ptr (List.length σ) 0) 0).bind fun d=>
 (fieldAddr PP 25 d 0).bind fun f=>
 (load PP 3 f (σ++[Row.mix z1])).bind fun m=>
 (binOp PP .gtr 3 m (DV.p (PV.int IntKind.i64 (400)))).bind fun O=>
 Gp G O false (fieldAddr PP 33 (DV.ptr (List.length σ) 0) 0) (σ++[Row.mix z1]) fun k σ1=>
 Gp G O false (fieldAddr PP 25 k 2) σ1 fun g σ2=>
 Gp G O false (load PP 23 g σ2) σ2 fun i σ3=>
 Gp G O false (len PP 23 i σ3) σ3 fun j σ4=>
 Gp G O false (binOp PP .gtr 3 j (DV.p (PV.int IntKind.i64 (2000)))) σ4 fun l σ5=>
 (Qt O (DV.p (PV.bool true)) l).bind fun q=>
 some (q,σ5):=by kernel_rfl
theorem F21_call {lo:Nat} {a:DV} (h:F21 Qb lo a σ=some r):CC lo 21 [a] σ=some r:=
 callL_run Tryz.func21 (by decide +kernel) rfl (by decide +kernel) h
def c19_0:Code:=Qs Tryz.f19
def a19_0:Ann:=(pol 19).ann
def c19_8:Code:=sndC (sndC c19_0)
def a19_8:Ann:=right (right a19_0)
def f19_J0 (a b c d m O H k g i j l:DV) (σ:Qa):RS:=
 (seqC G PP (pol 19) CC lo c19_8 a19_8 (finR PP Tryz.f19.results.toList)) .normal (a::b::c::d::Z::m::O::H::k::g::i::j::l::zn 21 []) σ
def F19 (a b c:DV) (σ:Qa):RS:=
 Qm G PP (pol 19) CC lo c19_0 a19_0 (a::b::c::zn 31 []) σ (finR PP Tryz.f19.results.toList)
theorem f19_J0_eq (G:Qe) (lo:Nat) (a b c d m O H k g i j l:DV) (σ:Qa):f19_J0 G lo a b c d m O H k g i j l σ =
 (binOp PP .neq 3 b I0).bind fun w=>
 Qh w
 (
 (fieldAddr PP 46 d 1).bind fun F=>
 (load PP 34 F σ).bind fun ah=>
 (binOp PP .eql 3 ah b).bind fun af=>
 Gp G af true (fieldAddr PP 46 d 0) σ fun Q σ3=>
 Gp G af true (load PP 33 Q σ3) σ3 fun u σ4=>
 Gp G af true (build PP 33 []) σ4 fun o σ5=>
 Gp G af true (Qg CC (DV.fn 58 []) [u,o] σ5) σ5 fun z σ6=>
 (Qt af z (DV.p (PV.bool false))).bind fun K=>
 some (K,σ6)
 )
 (
 (fieldAddr PP 46 d 1).bind fun A=>
 (load PP 34 A σ).bind fun ac=>
 (binOp PP .eql 34 ac I0).bind fun U=>
 Gp G U true (fieldAddr PP 46 d 0) σ fun S σ7=>
 Gp G U true (load PP 33 S σ7) σ7 fun aw σ8=>
 Gp G U true (load PP 33 m σ8) σ8 fun B σ9=>
 Gp G U true (Qg CC (DV.fn 58 []) [aw,B] σ9) σ9 fun I σ10=>
 (Qt U I (DV.p (PV.bool false))).bind fun ae=>
 some (ae,σ10)
 ):=by kernel_rfl
theorem F19_eqN (G:Qe) (lo:Nat) (a b c:DV) (σ:Qa):F19 G lo a b c σ =
 (boxV a).bind fun z3=>
 (boxV c).bind fun z5=>
 (binOp PP .eql 3 b I0).bind fun k=>
 Gp G k true (load PP 33 (DV.ptr (List.length (σ++[Row.mix z3])) 0) ((σ++[Row.mix z3])++[Row.mix z5])) ((σ++[Row.mix z3])++[Row.mix z5]) fun i σ1=>
 Gp G k true (Qg CC (DV.fn 21 []) [i] σ1) σ1 fun j σ2=>
 (Qt k j (DV.p (PV.bool false))).bind fun l=>
 Qh l
 (
 (binOp PP .neq 3 (DV.p (PV.int IntKind.i64 (2))) I0).bind fun w=>
 Qh w
 (
 (fieldAddr PP 46 (DV.ptr (List.length σ) 0) 1).bind fun F=>
 (load PP 34 F σ2).bind fun ah=>
 (binOp PP .eql 3 ah (DV.p (PV.int IntKind.i64 (2)))).bind fun af=>
 Gp G af true (fieldAddr PP 46 (DV.ptr (List.length σ) 0) 0) σ2 fun Q σ3=>
 Gp G af true (load PP 33 Q σ3) σ3 fun u σ4=>
 Gp G af true (build PP 33 []) σ4 fun o σ5=>
 Gp G af true (Qg CC (DV.fn 58 []) [u,o] σ5) σ5 fun z σ6=>
 (Qt af z (DV.p (PV.bool false))).bind fun K=>
 some (K,σ6)
 )
 (
 (fieldAddr PP 46 (DV.ptr (List.length σ) 0) 1).bind fun A=>
 (load PP 34 A σ2).bind fun ac=>
 (binOp PP .eql 34 ac I0).bind fun U=>
 Gp G U true (fieldAddr PP 46 (DV.ptr (List.length σ) 0) 0) σ2 fun S σ7=>
 Gp G U true (load PP 33 S σ7) σ7 fun aw σ8=>
 Gp G U true (load PP 33 (DV.ptr (List.length (σ++[Row.mix z3])) 0) σ8) σ8 fun B σ9=>
 Gp G U true (Qg CC (DV.fn 58 []) [aw,B] σ9) σ9 fun I σ10=>
 (Qt U I (DV.p (PV.bool false))).bind fun ae=>
 some (ae,σ10)
 )
 )
 (
 (binOp PP .neq 3 b I0).bind fun w=>
 Qh w
 (
 (fieldAddr PP 46 (DV.ptr (List.length σ) 0) 1).bind fun F=>
 (load PP 34 F σ2).bind fun ah=>
 (binOp PP .eql 3 ah b).bind fun af=>
 Gp G af true (fieldAddr PP 46 (DV.ptr (List.length σ) 0) 0) σ2 fun Q σ11=>
 Gp G af true (load PP 33 Q σ11) σ11 fun u σ12=>
 Gp G af true (build PP 33 []) σ12 fun o σ13=>
 Gp G af true (Qg CC (DV.fn 58 []) [u,o] σ13) σ13 fun z σ14=>
 (Qt af z (DV.p (PV.bool false))).bind fun K=>
 some (K,σ14)
 )
 (
 (fieldAddr PP 46 (DV.ptr (List.length σ) 0) 1).bind fun A=>
 (load PP 34 A σ2).bind fun ac=>
 (binOp PP .eql 34 ac I0).bind fun U=>
 Gp G U true (fieldAddr PP 46 (DV.ptr (List.length σ) 0) 0) σ2 fun S σ15=>
 Gp G U true (load PP 33 S σ15) σ15 fun aw σ16=>
 Gp G U true (load PP 33 (DV.ptr (List.length (σ++[Row.mix z3])) 0) σ16) σ16 fun B σ17=>
 Gp G U true (Qg CC (DV.fn 58 []) [aw,B] σ17) σ17 fun I σ18=>
 (Qt U I (DV.p (PV.bool false))).bind fun ae=>
 some (ae,σ18)
 )
 ):=by kernel_rfl
theorem F19_eq (G:Qe) (lo:Nat) (a b c:DV) (σ:Qa):F19 G lo a b c σ =
 (boxV a).bind fun z3=>
 (boxV c).bind fun z5=>
 (binOp PP .eql 3 b I0).bind fun k=>
 Gp G k true (load PP 33 (DV.ptr (List.length (σ++[Row.mix z3])) 0) ((σ++[Row.mix z3])++[Row.mix z5])) ((σ++[Row.mix z3])++[Row.mix z5]) fun i σ1=>
 Gp G k true (Qg CC (DV.fn 21 []) [i] σ1) σ1 fun j σ2=>
 (Qt k j (DV.p (PV.bool false))).bind fun l=>
 Qh l
 (
 f19_J0 G lo a (DV.p (PV.int IntKind.i64 (2))) c (DV.ptr (List.length σ) 0) (DV.ptr (List.length (σ++[Row.mix z3])) 0) (DV.p (PV.bool false)) b k k i j l σ2
 )
 (
 f19_J0 G lo a b c (DV.ptr (List.length σ) 0) (DV.ptr (List.length (σ++[Row.mix z3])) 0) (DV.p (PV.bool false)) b k k i j l σ2
 ):=(F19_eqN G lo a b c σ).trans (by simp only [f19_J0_eq])
theorem F19_call {lo:Nat} {a b c:DV} (h:F19 Qb lo a b c σ=some r):CC lo 19 [a,b,c] σ=some r:=
 callL_run Tryz.func19 (by decide +kernel) rfl (by decide +kernel) h
def c23_0:Code:=Qs Tryz.f23
def a23_0:Ann:=(pol 23).ann
def F23 (a b c d:DV) (σ:Qa):RS:=
 Qm G PP (pol 23) CC lo c23_0 a23_0 (a::b::c::d::zn 29 []) σ (finR PP Tryz.f23.results.toList)
theorem F23_eq (G:Qe) (lo:Nat) (a b c d:DV) (σ:Qa):F23 G lo a b c d σ =
 (boxV a).bind fun z4=>
 (Qg CC (DV.fn 34 []) [c,d] (σ++[Row.mix z4])).bind fun q=>
 (unOp .not q).bind fun w=>
 Qh w
 (
 some ((DV.p (PV.bool false)),(σ++[Row.mix z4]))
 )
 (
 (len PP 22 c (σ++[Row.mix z4])).bind fun ah=>
 (binOp PP .gtr 3 ah (DV.p (PV.int IntKind.i64 (60)))).bind fun R=>
 Qh R
 (
 some ((DV.p (PV.bool true)),(σ++[Row.mix z4]))
 )
 (
 (load PP 33 (DV.ptr (List.length σ) 0) (σ++[Row.mix z4])).bind fun b8=>
 (Qg CC (DV.fn 32 []) [b8] (σ++[Row.mix z4])).bind fun Q=>
 (Qg CC (DV.fn 16 []) [c] (σ++[Row.mix z4])).bind fun o=>
 (Qg CC (DV.fn 31 []) [Q,o] (σ++[Row.mix z4])).bind fun z=>
 (Qj z 0).bind fun K=>
 (Qj z 1).bind fun A=>
 (binOp PP .eql 34 A I0).bind fun U=>
 G _ U true (some (K,(σ++[Row.mix z4]))) (σ++[Row.mix z4]) fun S σ1=>
 G _ U true (some (b,σ1)) σ1 fun aw σ2=>
 Gp G U true (Qg CC (DV.fn 34 []) [S,aw] σ2) σ2 fun B σ3=>
 (Qt U B (DV.p (PV.bool false))).bind fun I=>
 some (I,σ3)
 )
 ):=by kernel_rfl
theorem F23_call {lo:Nat} {a b c d:DV} (h:F23 Qb lo a b c d σ=some r):CC lo 23 [a,b,c,d] σ=some r:=
 callL_run Tryz.func23 (by decide +kernel) rfl (by decide +kernel) h
end
end Go.D
end
/- Chapter 22: the reference's extended graph: numbers, first states and steps. -/
section
set_option linter.unusedVariables false
set_option linter.unusedSimpArgs false
namespace Go.D.StS
open Go.D.Srt
def ZU (S:List Bool) (k:Nat):List Nat:=(List.range k).filter fun n=>S.getD n false
def rk (S:List Bool) (n:Nat):Nat:=(ZU S n).length
theorem seenR_succ (S:List Bool) (k:Nat):ZU S (k+1)=if S.getD k false=true then ZU S k++[k] else ZU S k:=by
 unfold ZU
 rw [List.range_succ,List.filter_append]
 by_cases h:S.getD k false=true
 ·rw [if_pos h,List.filter_cons_of_pos (by simpa using h)]; rfl
 ·rw [if_neg h,List.filter_cons_of_neg (by simpa using h)]; simp
theorem rk_le (S:List Bool) (n:Nat):rk S n<=n:=by
 unfold rk ZU
 exact Nat.le_trans (List.length_filter_le _ _) (by simp)
theorem stMix {σ:Qa} {t off:Nat} {cs:List DV} {v:DV} (h:σ[t]?=some (.mix cs)) (ho:off<cs.length) (hv:v.one=true):Zo 0 [v] σ (.ptr t off)=some (σ.set t (.mix (cs.set off v))):=by
 have e:QS cs off [v]=cs.set off v:=by
  unfold QS
  rw [List.set_eq_take_append_cons_drop]
  simp [ho]
 simp [Zo,h,hv,e]
 omega
section
variable {σ : Qa} {t : Nat} {c0 c1 c2 c3 c4 v : DV} (h : σ[t]? = some (.mix [c0, c1, c2, c3, c4])) (hv : v.one = true) (hc : v.cells = [v])
include h hv hc
theorem st5_0:store PP 0 3 (.ptr t 0) v σ=some (σ.set t (.mix [v,c1,c2,c3,c4])):=by
 simp only [store,s3,hc,List.length_cons,List.length_nil,if_true]; exact stMix h (by simp) hv
theorem st5_1:store PP 0 22 (.ptr t 1) v σ=some (σ.set t (.mix [c0,v,c2,c3,c4])):=by
 simp only [store,s22',hc,List.length_cons,List.length_nil,if_true]; exact stMix h (by simp) hv
theorem st5_2:store PP 0 23 (.ptr t 2) v σ=some (σ.set t (.mix [c0,c1,v,c3,c4])):=by
 simp only [store,s23',hc,List.length_cons,List.length_nil,if_true]; exact stMix h (by simp) hv
theorem st5_3:store PP 0 22 (.ptr t 3) v σ=some (σ.set t (.mix [c0,c1,c2,v,c4])):=by
 simp only [store,s22',hc,List.length_cons,List.length_nil,if_true]; exact stMix h (by simp) hv
theorem st5_4:store PP 0 22 (.ptr t 4) v σ=some (σ.set t (.mix [c0,c1,c2,c3,v])):=by
 simp only [store,s22',hc,List.length_cons,List.length_nil,if_true]; exact stMix h (by simp) hv
end
theorem b_quo8 {n:Nat} (h:n<=1000000):binOp PP .quo 3 (.p (.int .i64 (n:Nat))) (.p (.int .i64 8))=some (.p (.int .i64 ((n / 8:Nat):Int))):=by
 have e:binOp PP .quo 3 (.p (.int .i64 (n:Nat))) (.p (.int .i64 8))=some (.p (.int .i64 (IntKind.wrap .i64 (Int.tdiv (n:Nat) 8)))):=Eq.trans (by kernel_rfl) rfl
 have e2:Int.tdiv (n:Nat) 8=((n / 8:Nat):Int):=rfl
 rw [e,e2,QE (by omega) (by omega)]
theorem b_rem8 {n:Nat} (h:n<=1000000):binOp PP .rem 3 (.p (.int .i64 (n:Nat))) (.p (.int .i64 8))=some (.p (.int .i64 ((n % 8:Nat):Int))):=by
 have e:binOp PP .rem 3 (.p (.int .i64 (n:Nat))) (.p (.int .i64 8))=some (.p (.int .i64 (Int.tmod (n:Nat) 8))):=Eq.trans (by kernel_rfl) rfl
 have e2:Int.tmod (n:Nat) 8=((n % 8:Nat):Int):=rfl
 rw [e,e2]
structure BZ (S:List Bool) (n ix ex bx ax:DV) (nm:List Int) (σ:Qa):Prop where
 r0:σ[0]?=some (.mix Z5)
 r1:σ[1]?=some (.arr (Ws S))
 r2:σ[2]?=some (.mix [n,ix,ex,bx,ax])
 r3:σ[3]?=some (.arr (Qr nm))
theorem BZ.len {S:List Bool} {n ix ex bx ax:DV} {nm:List Int} {σ:Qa} (h:BZ S n ix ex bx ax nm σ):4<=σ.length:=by have:=QT h.r3; omega
theorem BZ.oth {S:List Bool} {n ix ex bx ax:DV} {nm:List Int} {σ σ':Qa} (h:BZ S n ix ex bx ax nm σ) {lo sz m:Nat} {cs:List PV} {z:DV} (hz:Out σ lo sz m cs z) (ho:Others σ σ' z):BZ S n ix ex bx ax nm σ':=
 ⟨Others.mix ho hz h.r0 (fun v e=>by cases e),Others.mix ho hz h.r1 (fun v e=>by cases e),Others.mix ho hz h.r2 (fun v e=>by cases e),Others.mix ho hz h.r3 (fun v e=>by cases e)⟩
theorem BZ.set2 {S:List Bool} {n ix ex bx ax:DV} {nm:List Int} {σ:Qa} (h:BZ S n ix ex bx ax nm σ) (n' ix' ex' bx' ax':DV):BZ S n' ix' ex' bx' ax' nm (σ.set 2 (.mix [n',ix',ex',bx',ax'])):=by
 have:=h.len
 exact ⟨Qu h.r0 (by omega),Qu h.r1 (by omega),by rw [List.getElem?_set_self (by omega)],Qu h.r3 (by omega)⟩
theorem BZ.set3 {S:List Bool} {n ix ex bx ax:DV} {nm:List Int} {σ:Qa} (h:BZ S n ix ex bx ax nm σ) (nm':List Int):BZ S n ix ex bx ax nm' (σ.set 3 (.arr (Qr nm'))):=by
 have:=h.len
 exact ⟨Qu h.r0 (by omega),Qu h.r1 (by omega),Qu h.r2 (by omega),by rw [List.getElem?_set_self (by omega)]⟩
theorem set_getI (l:List Int) {t:Nat} (ht:t<l.length) (v:Int) (n:Nat):(l.set t v).getD n 0=if t=n then v else l.getD n 0:=by
 rw [List.getD_eq_getElem?_getD,List.getElem?_set,List.getD_eq_getElem?_getD]
 by_cases h:t=n
 ·subst h; simp [ht]
 ·simp [h]
def natI (l:List Nat):List Int:=l.map fun (j:Nat)=>(j:Int)
section
variable {o : OI} {q : OE} {S : List Bool} (hS : S.length = 240)
include hS
theorem bl_L3 {ix ex:DV}:∀ (d k:Nat) (bx ax:DV) (nm:List Int) (σ:Qa),240-k=d->k<=240->BZ S (.p (.int .i64 (rk S k:Nat))) ix ex bx ax nm σ->nm.length=240->(∀ j,j<k->S.getD j false=true->nm.getD j 0=((rk S j:Nat):Int))->
  Out σ 4 1 (rk S k) (Qr (natI ((ZU S k).map (· / 8)))) bx->Out σ 4 1 (rk S k) (Qr (natI ((ZU S k).map (· % 8)))) ax->Apart bx ax->
  ∃ bx' ax' nm' σ',f60_L3 Qb 0 (.p (eSl o)) (.p (eEs q)) (.ptr 0 0) (.rsl 1 1 0 240) (.ptr 2 0) (.rsl 3 1 0 240) (N k) σ=f60_L4 Qb 0 (.p (eSl o)) (.p (eEs q)) (.ptr 0 0) (.rsl 1 1 0 240) (.ptr 2 0) (.rsl 3 1 0 240) (N 0) σ'/\
   BZ S (.p (.int .i64 (rk S 240:Nat))) ix ex bx' ax' nm' σ'/\nm'.length=240/\(∀ j,j<240->S.getD j false=true->nm'.getD j 0=((rk S j:Nat):Int))/\
   Out σ' 4 1 (rk S 240) (Qr (natI ((ZU S 240).map (· / 8)))) bx'/\Out σ' 4 1 (rk S 240) (Qr (natI ((ZU S 240).map (· % 8)))) ax'/\Apart bx' ax'
 | 0,k,bx,ax,nm,σ,hd,hk,h,hn,hm,hb,ha,hap=>by
  have e:k=240:=by omega
  subst e
  refine ⟨bx,ax,nm,σ,?_,h,hn,hm,hb,ha,hap⟩
  rw [f60_L3_eq Qb rfl]
  simp (disch:=omega) only [N,Up,Qn,ltF,gG]
  rfl
 | d+1,k,bx,ax,nm,σ,hd,hk,h,hn,hm,hb,ha,hap=>by
  have hlt:((k:Nat):Int)<((240:Nat):Int):=by omega
  have ix0:indexAddr PP 81 (.rsl 1 1 0 240) (.p (.int .i64 (k:Nat)))=some (.ptr 1 k):=Jh (i:=(k:Nat)) (by omega) (by omega)
  have ix3:indexAddr PP 22 (.rsl 3 1 0 240) (.p (.int .i64 (k:Nat)))=some (.ptr 3 k):=idx22a (i:=(k:Nat)) (by omega) (by omega)
  have lb:=UP h.r1 (t:=k) (by omega)
  cases hs:S.getD k false with
  | false=>
   rw [hs] at lb
   have e1:ZU S (k+1)=ZU S k:=by rw [seenR_succ,hs]; rfl
   have e2:rk S (k+1)=rk S k:=by unfold rk; rw [e1]
   obtain ⟨bx',ax',nm',σ',r1,r2⟩:=bl_L3 d (k+1) bx ax nm σ (by omega) (by omega) (by rw [e2]; exact h) hn (fun j hj hsj=>by
    by_cases e:j=k
    ·subst e; rw [hs] at hsj; exact absurd hsj (by decide)
    ·exact hm j (by omega) hsj) (by rw [e1,e2]; exact hb) (by rw [e1,e2]; exact ha) hap
   refine ⟨bx',ax',nm',σ',?_,r2⟩
   rw [<-r1,f60_L3_eq Qb rfl]
   simp (disch:=omega) only [N,Up,Qn,ltT hlt,gG,ix0,UM,lb,f60_J1_eq,add1]
  | true=>
   rw [hs] at lb
   have hrk:=rk_le S k
   have e1:ZU S (k+1)=ZU S k++[k]:=by rw [seenR_succ,hs]; rfl
   have e2:rk S (k+1)=rk S k+1:=by unfold rk; rw [e1]; simp
   have hl:=h.len
   have s1:=st3a (b:=((rk S k:Nat):Int)) h.r3 (t:=k) (by omega)
   have h1:=h.set3 (nm.set k ((rk S k:Nat):Int))
   have hb1:=Out.setLow hb (q:=3) (by omega) (.arr (Qr (nm.set k ((rk S k:Nat):Int))))
   have ha1:=Out.setLow ha (q:=3) (by omega) (.arr (Qr (nm.set k ((rk S k:Nat):Int))))
   generalize hσ1:σ.set 3 (.arr (Qr (nm.set k ((rk S k:Nat):Int))))=σ1 at *
   have s2:=st5_0 (v:=.p (.int .i64 ((rk S k+1:Nat):Int))) h1.r2 rfl rfl
   have h2:=h1.set2 (.p (.int .i64 ((rk S k+1:Nat):Int))) ix ex bx ax
   have hb2:=Out.setLow hb1 (q:=2) (by omega) (.mix [.p (.int .i64 ((rk S k+1:Nat):Int)),ix,ex,bx,ax])
   have ha2:=Out.setLow ha1 (q:=2) (by omega) (.mix [.p (.int .i64 ((rk S k+1:Nat):Int)),ix,ex,bx,ax])
   generalize hσ2:σ1.set 2 (.mix [.p (.int .i64 ((rk S k+1:Nat):Int)),ix,ex,bx,ax])=σ2 at *
   obtain ⟨bx2,σ3,p1,p2,p3,p4⟩:=Out.pushG (lo:=0) (vs:=[pI (k / 8:Nat)]) UI u22 s3 VO Uy rfl (by decide) (by decide) (by decide) rfl hb2 (by omega) h2.len (Nat.zero_le _)
   have h3:=h2.oth hb2 p3
   have ha3:=Out.other ha2 p3 hap
   have hap3:Apart bx2 ax:=Apart.fresh hap p4 ha2
   obtain ⟨ax2,σ4,q1,q2,q3,q4⟩:=Out.pushG (lo:=0) (vs:=[pI (k % 8:Nat)]) UI u22 s3 VO Uy rfl (by decide) (by decide) (by decide) rfl ha3 (by omega) h3.len (Nat.zero_le _)
   have h4:=h3.oth ha3 q3
   have hb4:=Out.other p2 q3 hap3.symm
   have hap4:Apart bx2 ax2:=(Apart.fresh hap3.symm q4 p2).symm
   have s3':=st5_3 h4.r2 (QQ p2).1 (QQ p2).2
   have h5:=h4.set2 (.p (.int .i64 ((rk S k+1:Nat):Int))) ix ex bx2 ax
   have hb5:=Out.setLow hb4 (q:=2) (by omega) (.mix [.p (.int .i64 ((rk S k+1:Nat):Int)),ix,ex,bx2,ax])
   have ha5:=Out.setLow q2 (q:=2) (by omega) (.mix [.p (.int .i64 ((rk S k+1:Nat):Int)),ix,ex,bx2,ax])
   generalize hσ5:σ4.set 2 (.mix [.p (.int .i64 ((rk S k+1:Nat):Int)),ix,ex,bx2,ax])=σ5 at *
   have s4':=st5_4 h5.r2 (QQ q2).1 (QQ q2).2
   have h6:=h5.set2 (.p (.int .i64 ((rk S k+1:Nat):Int))) ix ex bx2 ax2
   have hb6:=Out.setLow hb5 (q:=2) (by omega) (.mix [.p (.int .i64 ((rk S k+1:Nat):Int)),ix,ex,bx2,ax2])
   have ha6:=Out.setLow ha5 (q:=2) (by omega) (.mix [.p (.int .i64 ((rk S k+1:Nat):Int)),ix,ex,bx2,ax2])
   generalize hσ6:σ5.set 2 (.mix [.p (.int .i64 ((rk S k+1:Nat):Int)),ix,ex,bx2,ax2])=σ6 at *
   have w1:Qr (natI ((ZU S k).map (· / 8)))++[pI (k / 8:Nat)]=Qr (natI ((ZU S (k+1)).map (· / 8))):=by rw [e1]; simp [natI,Qr]
   have w2:Qr (natI ((ZU S k).map (· % 8)))++[pI (k % 8:Nat)]=Qr (natI ((ZU S (k+1)).map (· % 8))):=by rw [e1]; simp [natI,Qr]
   rw [w1,<-e2] at hb6
   rw [w2,<-e2] at ha6
   obtain ⟨bx',ax',nm',σ',r1,r2⟩:=bl_L3 d (k+1) bx2 ax2 _ σ6 (by omega) (by omega) (by rw [e2]; exact h6) (by simpa using hn) (fun j hj hsj=>by
    rw [set_getI _ (by omega)]
    by_cases e:k=j
    ·subst e; rw [if_pos rfl]
    ·rw [if_neg e]; exact hm j (by omega) hsj) hb6 ha6 hap4
   refine ⟨bx',ax',nm',σ',?_,r2⟩
   have v2:=Qc (off:=4) h2.r2 (v:=ax) rfl
   have v3:=Qc (off:=4) h3.r2 (v:=ax) rfl
   have hsv:=sameV_out ha2
   rw [<-r1,f60_L3_eq Qb rfl]
   simp (disch:=omega) only [N,Up,Qn,ltT hlt,gG,ix0,UM,lb,Wq,Wi,Vd,We,gP,QF,Qc (off:=0) h.r2 (v:=.p (.int .i64 (rk S k:Nat))) rfl,ix3,s1,Qc (off:=0) h1.r2 (v:=.p (.int .i64 (rk S k:Nat))) rfl,add1,s2,
    QO,Qc (off:=3) h2.r2 (v:=bx) rfl,b_quo8,b_rem8,Vs,p1,v3,q1,s3',s4',v2,hsv,List.all_cons,List.all_nil,Bool.and_true,Bool.true_and,cond_true,f60_J1_eq]
end
theorem eqM' (a b c a' b' c':Int):binOp PP .eql 109 (.agg (edgD ⟨a,b,c⟩)) (.agg (edgD ⟨a',b',c'⟩))=((match some (a==a') with | some true=>(match some (b==b') with | some true=>(match some (c==c') with | some true=>some true | r=>r) | r=>r) | r=>r):Option Bool).map fun b=>.p (.bool b):=by kernel_rfl
theorem eqM (x y:Edg):binOp PP .eql 109 (.agg (edgD x)) (.agg (edgD y))=some (.p (.bool (decide (x=y)))):=by
 obtain ⟨a,b,c⟩:=x
 obtain ⟨a',b',c'⟩:=y
 rw [eqM']
 by_cases h1:a=a'
 ·by_cases h2:b=b'
  ·by_cases h3:c=c'
   ·subst h1; subst h2; subst h3; simp
   ·simp [h1,h2,h3]
  ·simp [h1,h2]
 ·simp [h1]
def hasM (l:List Edg) (e:Edg):Bool:=l.any fun x=>decide (x=e)
theorem load109 (x:DV) (σ:Qa):load PP 109 x σ=(Wl σ 3 x).map .agg:=Eq.trans (by kernel_rfl) rfl
theorem L94 {q:OE} {e:Edg} {σ:Qa} (h0:σ[0]?=some (.mix (edgD e))) (hl:(L q).length<=10000):∀ (d i:Nat),(L q).length-i=d->i<=(L q).length->
  f94_L0 Qb 0 (.p (eEs q)) (.ptr 0 0) (N i) σ=some (.p (.bool (hasM ((L q).drop i) e)),σ)
 | 0,i,hd,hi=>by
  rw [f94_L0_eq Qb rfl,List.drop_of_length_le (by omega)]
  simp (disch:=omega) only [N,UO,Qn,ltF,gG]
  rfl
 | d+1,i,hd,hi=>by
  have hil:i<(L q).length:=by omega
  have ih:=L94 h0 hl d (i+1) (by omega) (by omega)
  have e0:(L q).drop i=gE (L q) i::(L q).drop (i+1):=by rw [Vw hil]; exact List.drop_eq_getElem_cons hil
  have hld:(Wl σ 3 (.ptr 0 0)).map DV.agg=some (.agg (edgD e)):=by rw [QI (vs:=edgD e) h0 rfl (by simp [edgD])]; rfl
  unfold hasM at ih ⊢
  rw [f94_L0_eq Qb rfl,e0,List.any_cons]
  by_cases h1:gE (L q) i=e
  ·simp (disch:=omega) only [N,UO,Qn,ltT,gG,idx106,load109,ld69,hld,eqM,decide_eq_true h1,Bool.true_or]
  ·simp (disch:=omega) only [N,UO,Qn,ltT,gG,idx106,load109,ld69,hld,eqM,decide_eq_false h1,Bool.false_or,add1]
   exact ih
theorem S94 {q:OE} {e:Edg} {σ:Qa} (hl:(L q).length<=10000):Qv CC 94 [.p (eEs q),.agg (edgD e)] σ=some (.p (.bool (hasM (L q) e))):=by
 refine Qk (by simp [es_view]; rfl) rfl (F94_call (r:=(.p (.bool (hasM (L q) e)),[.mix (edgD e)])) ?_) rfl
 have hb:boxV (.agg (edgD e))=some (edgD e):=rfl
 have:=L94 (q:=q) (e:=e) (σ:=[.mix (edgD e)]) rfl hl _ 0 rfl (Nat.zero_le _)
 rw [List.drop_zero] at this
 rw [F94_eq]
 simp only [hb,gG,List.length_nil,List.nil_append]
 exact this
def firF (l:List Int) (k:Nat):List Nat:=(List.range k).filter fun (n:Nat)=>hasI l (n:Int)
theorem firF_succ (l:List Int) (k:Nat):firF l (k+1)=if hasI l (k:Int)=true then firF l k++[k] else firF l k:=by
 unfold firF
 rw [List.range_succ,List.filter_append]
 by_cases h:hasI l (k:Int)=true
 ·rw [if_pos h,List.filter_cons_of_pos (by simpa using h)]; rfl
 ·rw [if_neg h,List.filter_cons_of_neg (by simpa using h)]; simp
def eA (S:List Bool) (q:List Edg) (n m a:Nat):List Edg:=((List.range a).filter fun (a:Nat)=>hasM q ⟨(n:Int),(m:Int),(a:Int)⟩).map fun (a:Nat)=>(⟨((rk S n:Nat):Int),((rk S m:Nat):Int),(a:Int)⟩:Edg)
def eM (S:List Bool) (q:List Edg) (n m:Nat):List Edg:=(List.range m).flatMap fun m=>if S.getD m false=true then eA S q n m 12 else []
def eN (S:List Bool) (q:List Edg) (n:Nat):List Edg:=(List.range n).flatMap fun n=>if S.getD n false=true then eM S q n 240 else []
theorem eA_succ (S:List Bool) (q:List Edg) (n m a:Nat):eA S q n m (a+1)=if hasM q ⟨(n:Int),(m:Int),(a:Int)⟩=true then eA S q n m a++[⟨((rk S n:Nat):Int),((rk S m:Nat):Int),(a:Int)⟩] else eA S q n m a:=by
 unfold eA
 rw [List.range_succ,List.filter_append]
 by_cases h:hasM q ⟨(n:Int),(m:Int),(a:Int)⟩=true
 ·rw [if_pos h,List.filter_cons_of_pos (by simpa using h),List.map_append]; rfl
 ·rw [if_neg h,List.filter_cons_of_neg (by simpa using h)]; simp
theorem eM_succ (S:List Bool) (q:List Edg) (n m:Nat):eM S q n (m+1)=eM S q n m++(if S.getD m false=true then eA S q n m 12 else []):=by
 unfold eM; rw [List.range_succ,List.flatMap_append]; simp
theorem eN_succ (S:List Bool) (q:List Edg) (n:Nat):eN S q (n+1)=eN S q n++(if S.getD n false=true then eM S q n 240 else []):=by
 unfold eN; rw [List.range_succ,List.flatMap_append]; simp
theorem eA_len (S:List Bool) (q:List Edg) (n m a:Nat):(eA S q n m a).length<=a:=by
 unfold eA; rw [List.length_map]; exact Nat.le_trans (List.length_filter_le _ _) (by simp)
theorem eM_len (S:List Bool) (q:List Edg) (n:Nat):∀ m,(eM S q n m).length<=12*m
 | 0=>by simp [eM]
 | m+1=>by
  have:=eM_len S q n m
  have h2:=eA_len S q n m 12
  rw [eM_succ,List.length_append]
  split <;> simp <;> omega
theorem eN_len (S:List Bool) (q:List Edg):∀ n,(eN S q n).length<=2880*n
 | 0=>by simp [eN]
 | n+1=>by
  have:=eN_len S q n
  have h2:=eM_len S q n 240
  rw [eN_succ,List.length_append]
  split <;> simp <;> omega
end Go.D.StS
end
/- Chapter 22: the reference's extended graph aus a whole. -/
section
set_option linter.unusedVariables false
set_option linter.unusedSimpArgs false
namespace Go.D.StS
open Go.D.Srt
structure BY (S:List Bool) (n ix bx ax:DV) (nm:List Int) (ni:Nat) (is:List PV) (bas aus:List PV) (es:List Edg) (ex:DV) (σ:Qa):Prop where
 z:BZ S n ix ex bx ax nm σ
 oi:Out σ 4 1 ni is ix
 ob:Out σ 4 1 (rk S 240) bas bx
 oa:Out σ 4 1 (rk S 240) aus ax
 oe:Out σ 4 3 es.length (Zd es) ex
 i1:Apart ex ix
 i2:Apart ex bx
 i3:Apart ex ax
section
variable {o : OI} {q : OE} {S : List Bool} (hS : S.length = 240) {nm : List Int} (hnl : nm.length = 240) (hnm : ∀ j, j < 240 -> S.getD j false = true -> nm.getD j 0 = ((rk S j : Nat) : Int))
include hS hnl hnm
omit hS in
theorem bl_L4 (ho:∀ v∈L o,0<=v/\v<240/\SD S v=true) (hol:(L o).length<=1000) {n ex bx ax:DV} {bas aus:List PV}:∀ (d k:Nat) (ix:DV) (σ:Qa),240-k=d->k<=240->BZ S n ix ex bx ax nm σ->
  Out σ 4 1 (firF (L o) k).length (Qr (natI ((firF (L o) k).map (rk S)))) ix->Out σ 4 1 (rk S 240) bas bx->Out σ 4 1 (rk S 240) aus ax->Apart ix bx->Apart ix ax->
  ∃ ix' σ',f60_L4 Qb 0 (.p (eSl o)) (.p (eEs q)) (.ptr 0 0) (.rsl 1 1 0 240) (.ptr 2 0) (.rsl 3 1 0 240) (N k) σ=f60_L5 Qb 0 (.p (eEs q)) (.ptr 0 0) (.rsl 1 1 0 240) (.ptr 2 0) (.rsl 3 1 0 240) (N 0) σ'/\
   BZ S n ix' ex bx ax nm σ'/\Out σ' 4 1 (firF (L o) 240).length (Qr (natI ((firF (L o) 240).map (rk S)))) ix'/\Out σ' 4 1 (rk S 240) bas bx/\Out σ' 4 1 (rk S 240) aus ax/\Apart ix' bx/\Apart ix' ax
 | 0,k,ix,σ,hd,hk,h,hi,hb,ha,i1,i2=>by
  have e:k=240:=by omega
  subst e
  refine ⟨ix,σ,?_,h,hi,hb,ha,i1,i2⟩
  rw [f60_L4_eq Qb rfl]
  simp (disch:=omega) only [N,Up,Qn,ltF,gG]
  rfl
 | d+1,k,ix,σ,hd,hk,h,hi,hb,ha,i1,i2=>by
  have hlt:((k:Nat):Int)<((240:Nat):Int):=by omega
  have h62:=S62 (o:=o) (v:=(k:Int)) (σ:=σ) hol
  simp only [pI] at h62
  cases hh:hasI (L o) (k:Int) with
  | false=>
   rw [hh] at h62
   have e1:firF (L o) (k+1)=firF (L o) k:=by rw [firF_succ,hh]; rfl
   obtain ⟨ix',σ',r1,r2⟩:=bl_L4 ho hol d (k+1) ix σ (by omega) (by omega) h (by rw [e1]; exact hi) hb ha i1 i2
   refine ⟨ix',σ',?_,r2⟩
   rw [<-r1,f60_L4_eq Qb rfl]
   simp (disch:=omega) only [N,Up,Qn,ltT hlt,gG,Qi,List.append_nil,h62,f60_J2_eq,add1]
  | true=>
   rw [hh] at h62
   have hmem:(k:Int)∈L o:=by
    unfold hasI at hh
    rw [List.any_eq_true] at hh
    obtain ⟨v,hv,e⟩:=hh
    rw [decide_eq_true_iff] at e
    rw [e]; exact hv
   have hsk:S.getD k false=true:=(ho _ hmem).2.2
   have e1:firF (L o) (k+1)=firF (L o) k++[k]:=by rw [firF_succ,hh]; rfl
   have ix3:indexAddr PP 22 (.rsl 3 1 0 240) (.p (.int .i64 (k:Nat)))=some (.ptr 3 k):=idx22a (i:=(k:Nat)) (by omega) (by omega)
   have ldn:=ldInt h.r3 (t:=k) (by omega)
   rw [hnm k (by omega) hsk] at ldn
   have hfl:(firF (L o) k).length<=240:=by
    unfold firF; exact Nat.le_trans (List.length_filter_le _ _) (by simp; omega)
   obtain ⟨ix2,σ1,p1,p2,p3,p4⟩:=Out.pushG (lo:=0) (vs:=[pI (rk S k:Nat)]) UI u22 s3 VO Uy rfl (by decide) (by decide) (by decide) rfl hi (by omega) h.len (Nat.zero_le _)
   have h1:=h.oth hi p3
   have hb1:=Out.other hb p3 i1
   have ha1:=Out.other ha p3 i2
   have j1:Apart ix2 bx:=Apart.fresh i1 p4 hb
   have j2:Apart ix2 ax:=Apart.fresh i2 p4 ha
   have s1:=st5_1 h1.r2 (QQ p2).1 (QQ p2).2
   have w1:Qr (natI ((firF (L o) k).map (rk S)))++[pI (rk S k:Nat)]=Qr (natI ((firF (L o) (k+1)).map (rk S))):=by rw [e1]; simp [natI,Qr]
   have w2:(firF (L o) k).length+1=(firF (L o) (k+1)).length:=by rw [e1]; simp
   rw [w1,w2] at p2
   obtain ⟨ix',σ',r1,r2⟩:=bl_L4 ho hol d (k+1) ix2 _ (by omega) (by omega) (h1.set2 n ix2 ex bx ax) (Out.setLow p2 (by omega) _) (Out.setLow hb1 (by omega) _) (Out.setLow ha1 (by omega) _) j1 j2
   refine ⟨ix',σ',?_,r2⟩
   rw [<-r1,f60_L4_eq Qb rfl]
   simp (disch:=omega) only [N,Up,Qn,ltT hlt,gG,Qi,List.append_nil,h62,Wq,WE,gP,QO,Qc (off:=1) h.r2 (v:=ix) rfl,ix3,QF,ldn,Vs,p1,s1,f60_J2_eq,add1]
section
variable {n ix bx ax : DV} {ni : Nat} {is bas aus : List PV} (hql : (L q).length <= 10000)
omit hS hnl hnm in
theorem BY.push {es:List Edg} {ex:DV} {σ:Qa} (h:BY S n ix bx ax nm ni is bas aus es ex σ) (hn:es.length<=1000000) (v:Edg) :
  ∃ ex' σ1,append PP 0 false 23 23 ex (.p (.sl true 1 (eEdg v))) σ=some (ex',σ1)/\store PP 0 23 (.ptr 2 2) ex' σ1=some (σ1.set 2 (.mix [n,ix,ex',bx,ax]))/\BY S n ix bx ax nm ni is bas aus (es++[v]) ex' (σ1.set 2 (.mix [n,ix,ex',bx,ax])):=by
 obtain ⟨ex2,σ1,p1,p2,p3,p4⟩:=Out.pushG (lo:=0) (vs:=eEdg v) src23 u23 s69 bytes69 Us rfl (by decide) (by decide) (by decide) rfl h.oe (by omega) h.z.len (Nat.zero_le _)
 have h1:=h.z.oth h.oe p3
 have s1:=st5_2 h1.r2 (QQ p2).1 (QQ p2).2
 rw [eEdgs_snoc,show es.length+1=(es++[v]).length by simp] at p2
 exact ⟨ex2,σ1,p1,s1,h1.set2 n ix ex2 bx ax,Out.setLow (Out.other h.oi p3 h.i1) (by omega) _,Out.setLow (Out.other h.ob p3 h.i2) (by omega) _,Out.setLow (Out.other h.oa p3 h.i3) (by omega) _,Out.setLow p2 (by omega) _,Apart.fresh h.i1 p4 h.oi,Apart.fresh h.i2 p4 h.ob,Apart.fresh h.i3 p4 h.oa⟩
include hql
theorem bl_L7 {k m:Nat} (hk:k<240) (hm:m<240) (hsk:S.getD k false=true) (hsm:S.getD m false=true) {E0:List Edg} (hE:E0.length<=700000):∀ (d a:Nat) (ex:DV) (σ:Qa),12-a=d->a<=12->BY S n ix bx ax nm ni is bas aus (E0++eA S (L q) k m a) ex σ->
  ∃ ex' σ',f60_L7 Qb 0 (.p (eEs q)) (.ptr 0 0) (.rsl 1 1 0 240) (.ptr 2 0) (.rsl 3 1 0 240) (N k) (N m) (N a) σ=f60_L6 Qb 0 (.p (eEs q)) (.ptr 0 0) (.rsl 1 1 0 240) (.ptr 2 0) (.rsl 3 1 0 240) (N k) (N (m+1)) σ'/\BY S n ix bx ax nm ni is bas aus (E0++eA S (L q) k m 12) ex' σ'
 | 0,a,ex,σ,hd,ha,h=>by
  have e:a=12:=by omega
  subst e
  refine ⟨ex,σ,?_,h⟩
  rw [f60_L7_eq Qb rfl]
  simp (disch:=omega) only [N,Qn,ltF,gG,add1]
 | d+1,a,ex,σ,hd,ha,h=>by
  have hlt:((a:Nat):Int)<12:=by omega
  have ixm:indexAddr PP 81 (.rsl 1 1 0 240) (.p (.int .i64 (m:Nat)))=some (.ptr 1 m):=Jh (i:=(m:Nat)) (by omega) (by omega)
  have lbm:=UP h.z.r1 (t:=m) (by omega)
  rw [hsm] at lbm
  have h94:=S94 (q:=q) (e:=⟨(k:Int),(m:Int),(a:Int)⟩) (σ:=σ) hql
  have bld:build PP 109 [(0,.p (.int .i64 (k:Nat))),(1,.p (.int .i64 (m:Nat))),(2,.p (.int .i64 (a:Nat)))]=some (.agg (edgD ⟨(k:Int),(m:Int),(a:Int)⟩)):=Eq.trans (by kernel_rfl) rfl
  have ixk3:indexAddr PP 22 (.rsl 3 1 0 240) (.p (.int .i64 (k:Nat)))=some (.ptr 3 k):=idx22a (i:=(k:Nat)) (by omega) (by omega)
  have ixm3:indexAddr PP 22 (.rsl 3 1 0 240) (.p (.int .i64 (m:Nat)))=some (.ptr 3 m):=idx22a (i:=(m:Nat)) (by omega) (by omega)
  have ldk:=ldInt h.z.r3 (t:=k) (by omega)
  rw [hnm k hk hsk] at ldk
  have ldm:=ldInt h.z.r3 (t:=m) (by omega)
  rw [hnm m hm hsm] at ldm
  have hal:=eA_len S (L q) k m a
  cases hh:hasM (L q) ⟨(k:Int),(m:Int),(a:Int)⟩ with
  | false=>
   rw [hh] at h94
   obtain ⟨ex',σ',r1,r2⟩:=bl_L7 hk hm hsk hsm hE d (a+1) ex σ (by omega) (by omega) (by rw [eA_succ,hh]; exact h)
   refine ⟨ex',σ',?_,r2⟩
   rw [<-r1,f60_L7_eq Qb rfl]
   simp (disch:=omega) only [N,Qn,ltT hlt,gG,ixm,UM,lbm,bld,Qi,List.append_nil,h94,f60_J3_eq,add1]
  | true=>
   rw [hh] at h94
   obtain ⟨ex2,σ1,p1,p2,p3⟩:=BY.push h (by rw [List.length_append]; omega) ⟨((rk S k:Nat):Int),((rk S m:Nat):Int),(a:Int)⟩
   obtain ⟨ex',σ',r1,r2⟩:=bl_L7 hk hm hsk hsm hE d (a+1) ex2 _ (by omega) (by omega) (by rw [eA_succ,hh,if_pos rfl,<-List.append_assoc]; exact p3)
   refine ⟨ex',σ',?_,r2⟩
   rw [<-r1,f60_L7_eq Qb rfl]
   simp (disch:=omega) only [N,Qn,ltT hlt,gG,ixm,UM,lbm,bld,Qi,List.append_nil,h94,Wq,Zg,gP,Zc,Qc (off:=2) h.z.r2 (v:=ex) rfl,ixk3,ixm3,QF,ldk,ldm,bld69,bs23_1,p1,p2,f60_J3_eq,add1]
theorem bl_L6 {k:Nat} (hk:k<240) (hsk:S.getD k false=true) {E0:List Edg} (hE:E0.length<=695000):∀ (d m:Nat) (ex:DV) (σ:Qa),240-m=d->m<=240->BY S n ix bx ax nm ni is bas aus (E0++eM S (L q) k m) ex σ->
  ∃ ex' σ',f60_L6 Qb 0 (.p (eEs q)) (.ptr 0 0) (.rsl 1 1 0 240) (.ptr 2 0) (.rsl 3 1 0 240) (N k) (N m) σ=f60_L5 Qb 0 (.p (eEs q)) (.ptr 0 0) (.rsl 1 1 0 240) (.ptr 2 0) (.rsl 3 1 0 240) (N (k+1)) σ'/\BY S n ix bx ax nm ni is bas aus (E0++eM S (L q) k 240) ex' σ'
 | 0,m,ex,σ,hd,hm,h=>by
  have e:m=240:=by omega
  subst e
  refine ⟨ex,σ,?_,h⟩
  have hnl:¬ (((240:Nat):Int)<((240:Nat):Int)):=by omega
  rw [f60_L6_eq Qb rfl]
  simp (disch:=omega) only [N,Up,Qn,ltF hnl,gG,add1]
 | d+1,m,ex,σ,hd,hm,h=>by
  have hlt:((m:Nat):Int)<((240:Nat):Int):=by omega
  have ixk:indexAddr PP 81 (.rsl 1 1 0 240) (.p (.int .i64 (k:Nat)))=some (.ptr 1 k):=Jh (i:=(k:Nat)) (by omega) (by omega)
  have ixm:indexAddr PP 81 (.rsl 1 1 0 240) (.p (.int .i64 (m:Nat)))=some (.ptr 1 m):=Jh (i:=(m:Nat)) (by omega) (by omega)
  have lbk:=UP h.z.r1 (t:=k) (by omega)
  rw [hsk] at lbk
  have lbm:=UP h.z.r1 (t:=m) (by omega)
  have hml:=eM_len S (L q) k m
  cases hsm:S.getD m false with
  | false=>
   rw [hsm] at lbm
   obtain ⟨ex',σ',r1,r2⟩:=bl_L6 hk hsk hE d (m+1) ex σ (by omega) (by omega) (by rw [eM_succ,hsm]; simpa using h)
   refine ⟨ex',σ',?_,r2⟩
   have h012:(0:Int)<12:=by decide
   rw [<-r1,f60_L6_eq Qb rfl]
   simp (disch:=omega) only [N,Up,Qn,ltT hlt,gG,ixk,UM,lbk]
   rw [f60_L7_eq Qb rfl]
   simp (disch:=omega) only [N,Qn,ltT h012,gG,ixm,UM,lbm,add1]
  | true=>
   obtain ⟨ex2,σ1,p1,p2⟩:=bl_L7 hS hnl hnm hql hk (show m<240 by omega) hsk hsm (E0:=E0++eM S (L q) k m) (by rw [List.length_append]; omega) _ 0 ex σ rfl (Nat.zero_le _) (by simpa [eA] using h)
   obtain ⟨ex',σ',r1,r2⟩:=bl_L6 hk hsk hE d (m+1) ex2 σ1 (by omega) (by omega) (by rw [eM_succ,hsm,if_pos rfl,<-List.append_assoc]; exact p2)
   refine ⟨ex',σ',?_,r2⟩
   rw [<-r1,<-p1,f60_L6_eq Qb rfl]
   simp (disch:=omega) only [N,Up,Qn,ltT hlt,gG,ixk,UM,lbk]
   rfl
theorem bl_L5:∀ (d k:Nat) (ex:DV) (σ:Qa),240-k=d->k<=240->BY S n ix bx ax nm ni is bas aus (eN S (L q) k) ex σ->
  ∃ ex' σ',f60_L5 Qb 0 (.p (eEs q)) (.ptr 0 0) (.rsl 1 1 0 240) (.ptr 2 0) (.rsl 3 1 0 240) (N k) σ=f60_L5 Qb 0 (.p (eEs q)) (.ptr 0 0) (.rsl 1 1 0 240) (.ptr 2 0) (.rsl 3 1 0 240) (N 240) σ'/\BY S n ix bx ax nm ni is bas aus (eN S (L q) 240) ex' σ'
 | 0,k,ex,σ,hd,hk,h=>by
  have e:k=240:=by omega
  subst e
  exact ⟨ex,σ,rfl,h⟩
 | d+1,k,ex,σ,hd,hk,h=>by
  have hlt:((k:Nat):Int)<((240:Nat):Int):=by omega
  have h0:((0:Nat):Int)<((240:Nat):Int):=by decide
  have ixk:indexAddr PP 81 (.rsl 1 1 0 240) (.p (.int .i64 (k:Nat)))=some (.ptr 1 k):=Jh (i:=(k:Nat)) (by omega) (by omega)
  have lbk:=UP h.z.r1 (t:=k) (by omega)
  have hel:=eN_len S (L q) k
  cases hsk:S.getD k false with
  | false=>
   rw [hsk] at lbk
   obtain ⟨ex',σ',r1,r2⟩:=bl_L5 d (k+1) ex σ (by omega) (by omega) (by rw [eN_succ,hsk]; simpa using h)
   refine ⟨ex',σ',?_,r2⟩
   rw [<-r1,f60_L5_eq Qb rfl]
   simp (disch:=omega) only [N,Up,Qn,ltT hlt,gG]
   rw [f60_L6_eq Qb rfl]
   have e0:(DV.p (.int .i64 0))=.p (.int .i64 ((0:Nat):Int)):=rfl
   simp (disch:=omega) only [e0,Up,Qn,ltT h0,gG,ixk,UM,lbk,add1]
  | true=>
   obtain ⟨ex2,σ1,p1,p2⟩:=bl_L6 hS hnl hnm hql (show k<240 by omega) hsk (E0:=eN S (L q) k) (by omega) _ 0 ex σ rfl (Nat.zero_le _) (by simpa [eM] using h)
   obtain ⟨ex',σ',r1,r2⟩:=bl_L5 d (k+1) ex2 σ1 (by omega) (by omega) (by rw [eN_succ,hsk,if_pos rfl]; exact p2)
   refine ⟨ex',σ',?_,r2⟩
   rw [<-r1,<-p1,f60_L5_eq Qb rfl]
   simp (disch:=omega) only [N,Up,Qn,ltT hlt,gG]
   rfl
end
end
def refX (S:List Bool) (l:List Int) (q:List Edg):Ax:=⟨⟨(rk S 240:Nat),oI (natI ((firF l 240).map (rk S))),oE (eN S q 240)⟩,oI (natI ((ZU S 240).map (· / 8))),oI (natI ((ZU S 240).map (· % 8)))⟩
theorem thaw_oE {σ σ':Qa} {lo:Nat} {l:List Edg} {y:DV} (m:Nat) (h:Out σ lo 3 l.length (Zd l) y):thaw m σ' y=some (.p (eEs (oE l))):=by
 have h2:=Out.tw h m
 rw [oE_val] at h2
 rcases h.2 with ⟨_,rfl⟩ | ⟨_,r,ver,rfl,_,_⟩
 ·exact h2
 ·exact h2
theorem S60 {o:OI} {q:OE} (hk:MvOk (L o) (L q)):∃ S,S.length=240/\(∀ v,0<=v->v<240->(SD S v=true↔RchB (L o) (L q) v))/\∀ σ,Qv CC 60 [.p (eSl o),.p (eEs q)] σ=some (.agg (eAx (refX S (L o) (L q)))):=by
 obtain ⟨S,hS,hs,hF⟩:=bl_seen hk
 refine ⟨S,hS,hs,fun σ=>?_⟩
 have z0:BZ S (.p (.int .i64 (rk S 0:Nat))) (.p .nilsl) (.p .nilsl) (.p .nilsl) (.p .nilsl) (List.replicate 240 0) (st2 S++[.mix Z5,.arr (Qr (List.replicate 240 0))]):=⟨rfl,rfl,rfl,rfl⟩
 obtain ⟨bx,ax,nm,σ1,a1,a2,a3,a4,a5,a6,a7⟩:=bl_L3 (o:=o) (q:=q) hS _ 0 (.p .nilsl) (.p .nilsl) _ _ rfl (Nat.zero_le _) z0 (List.length_replicate) (fun j hj=>by omega) Out.zero Out.zero (Apart.nil _)
 have ho:∀ v∈L o,0<=v/\v<240/\SD S v=true:=fun v hv=>⟨(hk.f v hv).1,(hk.f v hv).2,(hs v (hk.f v hv).1 (hk.f v hv).2).2 (.init hv)⟩
 obtain ⟨ix,σ2,b1,b2,b3,b4,b5,b6,b7⟩:=bl_L4 (q:=q) a3 a4 ho hk.ll _ 0 (.p .nilsl) σ1 rfl (Nat.zero_le _) a2 Out.zero a5 a6 (Apart.nil _) (Apart.nil _)
 obtain ⟨ex,σ3,c1,c2⟩:=bl_L5 hS a3 a4 hk.ql _ 0 (.p .nilsl) σ2 rfl (Nat.zero_le _) ⟨b2,b3,b4,b5,Out.zero,Apart.nil _,Apart.nil _,Apart.nil _⟩
 have hone:([.p (.int .i64 (rk S 240:Nat)),ix,ex,bx,ax]:List DV).all DV.one=true:=by
  simp [(QQ c2.oi).1,(QQ c2.oe).1,(QQ c2.ob).1,(QQ c2.oa).1]
  rfl
 have hld:load PP 33 (.ptr 2 0) σ3=some (.agg [.p (.int .i64 (rk S 240:Nat)),ix,ex,bx,ax]):=by
  rw [load33,QI (vs:=[.p (.int .i64 (rk S 240:Nat)),ix,ex,bx,ax]) c2.z.r2 rfl (by simp)]; rfl
 have hst:=st33 (c:=[.p (.int .i64 (rk S 240:Nat)),ix,ex,bx,ax]) c2.z.r0 rfl rfl hone
 have hg0:(σ3.set 0 (.mix [.p (.int .i64 (rk S 240:Nat)),ix,ex,bx,ax]))[0]?=some (.mix [.p (.int .i64 (rk S 240:Nat)),ix,ex,bx,ax]):=by rw [List.getElem?_set_self (QT c2.z.r0)]
 have hcv:Vy PP 33 (.ptr 0 0) (σ3.set 0 (.mix [.p (.int .i64 (rk S 240:Nat)),ix,ex,bx,ax]))=some (.agg [.p (.int .i64 (rk S 240:Nat)),ix,ex,bx,ax]):=by
  rw [WA,load33,QI (vs:=[.p (.int .i64 (rk S 240:Nat)),ix,ex,bx,ax]) hg0 rfl (by simp)]; rfl
 have hnl:¬ (((240:Nat):Int)<((240:Nat):Int)):=by omega
 refine Qk (by simp [Zf,es_view]) rfl (F60_call (r:=(.agg [.p (.int .i64 (rk S 240:Nat)),ix,ex,bx,ax],σ3.set 0 (.mix [.p (.int .i64 (rk S 240:Nat)),ix,ex,bx,ax]))) ?_) ?_
 ·rw [hF]
  refine a1.trans (b1.trans (c1.trans ?_))
  rw [f60_L5_eq Qb rfl]
  simp only [N,Up,Qn,ltF hnl,gG,hld,hst,hcv]
 ·have t1:=thaw_oI (σ':=σ3.set 0 (.mix [.p (.int .i64 (rk S 240:Nat)),ix,ex,bx,ax])) (l:=natI ((firF (L o) 240).map (rk S))) 0 (by rw [show (natI ((firF (L o) 240).map (rk S))).length=(firF (L o) 240).length by simp [natI]]; exact c2.oi)
  have t2:=thaw_oI (σ':=σ3.set 0 (.mix [.p (.int .i64 (rk S 240:Nat)),ix,ex,bx,ax])) (l:=natI ((ZU S 240).map (· / 8))) 0 (by rw [show (natI ((ZU S 240).map (· / 8))).length=rk S 240 by simp [natI,rk]]; exact c2.ob)
  have t3:=thaw_oI (σ':=σ3.set 0 (.mix [.p (.int .i64 (rk S 240:Nat)),ix,ex,bx,ax])) (l:=natI ((ZU S 240).map (· % 8))) 0 (by rw [show (natI ((ZU S 240).map (· % 8))).length=rk S 240 by simp [natI,rk]]; exact c2.oa)
  have t4:=thaw_oE (σ':=σ3.set 0 (.mix [.p (.int .i64 (rk S 240:Nat)),ix,ex,bx,ax])) 0 c2.oe
  have ta:∀ (σ:Qa) (cs:List DV),Ze 0 σ (.agg cs)=(mapO (thaw 0 σ) cs).map .agg:=fun σ cs=>rfl
  rw [ta]
  simp only [mapO,tw_int,t1,t2,t3,t4,Option.map_some]
  rfl
end Go.D.StS
end
/- Chapter 22: the program's extended graph and the reference's are the same, in plain terms. -/
section
set_option linter.unusedVariables false
set_option linter.unusedSimpArgs false
namespace Go.D.StS
open Go.D.Srt
def pr (x:E):Int:=x.1*8+x.2
def pN (x:E):Nat:=(pr x).toNat
theorem pr_inj {x y:E} (hx:0<=x.2/\x.2<=7) (hy:0<=y.2/\y.2<=7) (h:pr x=pr y):x=y:=by
 unfold pr at h
 exact Prod.ext (by omega) (by omega)
theorem asc_ext {l1 l2:List Nat} (h1:l1.Pairwise (· < ·)) (h2:l2.Pairwise (· < ·)) (h:∀ n,n∈l1↔n∈l2):l1=l2:=by
 have n1:l1.Nodup:=h1.imp fun {a b} h e=>by omega
 have n2:l2.Nodup:=h2.imp fun {a b} h e=>by omega
 exact List.Perm.eq_of_pairwise (fun a b _ _ h3 h4=>by omega) h1 h2 ((List.perm_ext_iff_of_nodup n1 n2).2 h)
theorem groM_sound {M:E->OE} {R:E->Prop} (hR:∀ x,R x->∀ e∈L (M x),R (toE e)):∀ (d i:Nat) (A:List E),(∀ x∈A,R x)->∀ x∈groM M d i A,R x
 | 0,i,A,h,x,hx=>h x hx
 | d+1,i,A,h,x,hx=>by
  unfold groM at hx
  by_cases hlt:i<A.length
  ·rw [if_pos hlt] at hx
   refine groM_sound hR d (i+1) _ (fun y hy=>?_) x hx
   rcases (Wt _ _ _).1 hy with h1 | h1
   ·exact h y h1
   ·rw [List.mem_map] at h1
    obtain ⟨e,he,rfl⟩:=h1
    exact hR _ (h _ (by rw [Zi hlt]; exact List.getElem_mem hlt)) e he
  ·rw [if_neg hlt] at hx
   exact h x hx
structure RefOk (n:Int) (B:List E) (M:E->OE) (l:List E) (l0:List Int) (q0:List Edg):Prop where
 f:∀ v,v∈l0↔∃ x∈l,v=pr x
 m:∀ x∈B,∀ m a,(⟨pr x,m,a⟩:Edg)∈q0↔∃ e∈L (M x),m=pr (toE e)/\a=e.a
 s:∀ e∈q0,∃ x,InS n x/\e.f=pr x
theorem mem_seenR {S:List Bool} {k n:Nat}:n∈ZU S k↔n<k/\S.getD n false=true:=by
 unfold ZU; rw [List.mem_filter,List.mem_range]
theorem seenR_asc (S:List Bool) (k:Nat):(ZU S k).Pairwise (· < ·):=List.pairwise_lt_range.filter _
theorem seenR_pre (S:List Bool) {a b:Nat} (h:a<=b):ZU S a <+: ZU S b:=by
 induction b with
 | zero=>
  have h0:a=0:=by omega
  subst h0; exact List.prefix_refl _
 | succ b ih=>
  by_cases e:a=b+1
  ·subst e; exact List.prefix_refl _
  ·have h1:=ih (by omega)
   rw [seenR_succ]
   split
   ·exact h1.trans (List.prefix_append _ _)
   ·exact h1
theorem seenR_at {S:List Bool} {k n:Nat} (hn:n<k) (hs:S.getD n false=true):∃ h:rk S n<(ZU S k).length,(ZU S k)[rk S n]=n:=by
 have hp:=seenR_pre S (show n+1<=k by omega)
 rw [seenR_succ,if_pos hs] at hp
 obtain ⟨t,ht⟩:=hp
 have hlen:rk S n<(ZU S k).length:=by rw [<-ht]; simp [rk]
 refine ⟨hlen,?_⟩
 have:(ZU S n++[n]++t)[rk S n]?=some n:=by
  rw [List.append_assoc,List.getElem?_append_right (by unfold rk; exact Nat.le_refl _)]
  simp [rk]
 rw [ht] at this
 rw [List.getElem?_eq_getElem hlen] at this
 exact Option.some.inj this
theorem rk_mono {S:List Bool} {a b:Nat} (h:a<b) (hs:S.getD a false=true):rk S a<rk S b:=by
 have hp:=seenR_pre S (show a+1<=b by omega)
 rw [seenR_succ,if_pos hs] at hp
 have:=hp.length_le
 rw [List.length_append] at this
 unfold rk
 simp only [List.length_cons,List.length_nil] at this
 omega
theorem hasM_iff {q:List Edg} {e:Edg}:hasM q e=true↔e∈q:=by
 unfold hasM
 rw [List.any_eq_true]
 constructor
 ·rintro ⟨x,hx,h⟩
  rw [decide_eq_true_iff] at h
  exact h ▸ hx
 ·exact fun h=>⟨e,h,decide_eq_true rfl⟩
theorem mem_eN {S:List Bool} {q:List Edg} {e:Edg}:e∈eN S q 240↔∃ n m a:Nat,n<240/\m<240/\a<12/\S.getD n false=true/\S.getD m false=true/\(⟨(n:Int),(m:Int),(a:Int)⟩:Edg)∈q/\e=⟨((rk S n:Nat):Int),((rk S m:Nat):Int),(a:Int)⟩:=by
 unfold eN
 rw [List.mem_flatMap]
 constructor
 ·rintro ⟨n,hn,h⟩
  rw [List.mem_range] at hn
  by_cases hs:S.getD n false=true
  ·rw [if_pos hs] at h
   unfold eM at h
   rw [List.mem_flatMap] at h
   obtain ⟨m,hm,h⟩:=h
   rw [List.mem_range] at hm
   by_cases hs2:S.getD m false=true
   ·rw [if_pos hs2] at h
    unfold eA at h
    rw [List.mem_map] at h
    obtain ⟨a,ha,rfl⟩:=h
    rw [List.mem_filter,List.mem_range,hasM_iff] at ha
    exact ⟨n,m,a,hn,hm,ha.1,hs,hs2,ha.2,rfl⟩
   ·rw [if_neg hs2] at h; exact absurd h (by simp)
  ·rw [if_neg hs] at h; exact absurd h (by simp)
 ·rintro ⟨n,m,a,hn,hm,ha,hs,hs2,hq,rfl⟩
  refine ⟨n,List.mem_range.2 hn,?_⟩
  rw [if_pos hs]
  unfold eM
  rw [List.mem_flatMap]
  refine ⟨m,List.mem_range.2 hm,?_⟩
  rw [if_pos hs2]
  unfold eA
  rw [List.mem_map]
  exact ⟨a,by rw [List.mem_filter,List.mem_range,hasM_iff]; exact ⟨ha,hq⟩,rfl⟩
theorem eN_asc (S:List Bool) (q:List Edg):(eN S q 240).Pairwise fun x y=>ordE x y<0:=by
 have inA:∀ {n m:Nat} {x:Edg},x∈(if S.getD m false=true then eA S q n m 12 else [])->S.getD m false=true/\∃ a:Nat,x=⟨((rk S n:Nat):Int),((rk S m:Nat):Int),(a:Int)⟩:=fun {n m x} h=>by
  by_cases hs2:S.getD m false=true
  ·rw [if_pos hs2] at h
   unfold eA at h
   rw [List.mem_map] at h
   obtain ⟨a,ha,rfl⟩:=h
   exact ⟨hs2,a,rfl⟩
  ·rw [if_neg hs2] at h; exact absurd h (by simp)
 have inM:∀ {n:Nat} {x:Edg},x∈(if S.getD n false=true then eM S q n 240 else [])->S.getD n false=true/\x.f=((rk S n:Nat):Int):=fun {n x} h=>by
  by_cases hs:S.getD n false=true
  ·rw [if_pos hs] at h
   unfold eM at h
   rw [List.mem_flatMap] at h
   obtain ⟨m,hm,h⟩:=h
   obtain ⟨_,a,rfl⟩:=inA h
   exact ⟨hs,rfl⟩
  ·rw [if_neg hs] at h; exact absurd h (by simp)
 unfold eN
 rw [List.pairwise_flatMap]
 refine ⟨fun n hn=>?_,List.pairwise_lt_range.imp fun {n n'} hlt x hx y hy=>?_⟩
 ·by_cases hs:S.getD n false=true
  ·rw [if_pos hs]
   unfold eM
   rw [List.pairwise_flatMap]
   refine ⟨fun m hm=>?_,List.pairwise_lt_range.imp fun {m m'} hlt x hx y hy=>?_⟩
   ·by_cases hs2:S.getD m false=true
    ·rw [if_pos hs2]
     unfold eA
     rw [List.pairwise_map]
     refine (List.pairwise_lt_range.filter _).imp fun {a b} hlt=>?_
     rw [StT.ordE_lt]
     refine .inr ⟨rfl,.inr ⟨rfl,?_⟩⟩
     simp only
     omega
    ·rw [if_neg hs2]; exact List.Pairwise.nil
   ·obtain ⟨h1,a,rfl⟩:=inA hx
    obtain ⟨h2,b,rfl⟩:=inA hy
    have:=rk_mono hlt h1
    rw [StT.ordE_lt]
    refine .inr ⟨rfl,.inl ?_⟩
    simp only
    omega
  ·rw [if_neg hs]; exact List.Pairwise.nil
 ·obtain ⟨h1,h2⟩:=inM hx
  obtain ⟨h3,h4⟩:=inM hy
  have:=rk_mono hlt h1
  rw [StT.ordE_lt,h2,h4]
  omega
theorem ordE_ext {l1 l2:List Edg} (h1:l1.Pairwise fun x y=>ordE x y<0) (h2:l2.Pairwise fun x y=>ordE x y<0) (h:∀ e,e∈l1↔e∈l2):l1=l2:=by
 have nd:∀ {l:List Edg},l.Pairwise (fun x y=>ordE x y<0)->l.Nodup:=fun {l} hl=>by
  rw [List.nodup_iff_pairwise_ne]
  exact hl.imp fun {x y} h e=>by subst e; exact StT.ord_irr x h
 exact List.Perm.eq_of_pairwise (fun a b _ _ h3 h4=>by rw [StT.ordE_lt] at h3 h4; omega) h1 h2 ((List.perm_ext_iff_of_nodup (nd h1) (nd h2)).2 h)
section
variable {n : Int} {M : E -> OE} {l B : List E} {E' : List Edg} {l0 : List Int} {q0 : List Edg} {S : List Bool}
variable (hn:n<=30) (hx:ExtG n M l B E') (hr:RefOk n B M l l0 q0) (hS:∀ v,0<=v->v<240->(SD S v=true↔RchB l0 q0 v)) (hl:Asc l) (ha:∀ x∈B,∀ e∈L (M x),0<=e.a/\e.a<=11)
include hx hr
theorem rch_iff (v:Int):RchB l0 q0 v↔∃ x∈B,v=pr x:=by
 constructor
 ·intro h
  induction h with
  | init hv=>
   obtain ⟨x,hxl,rfl⟩:=(hr.f _).1 hv
   exact ⟨x,hx.beg x hxl,rfl⟩
  | @step e _ he ih=>
   obtain ⟨x,hxB,hf⟩:=ih
   have:e=⟨pr x,e.t,e.a⟩:=by rw [<-hf]
   rw [this] at he
   obtain ⟨e',he',h1,_⟩:=(hr.m x hxB e.t e.a).1 he
   exact ⟨toE e',hx.cl x hxB e' he',h1⟩
 ·rintro ⟨x,hxB,rfl⟩
  have h1:=groM_sound (M:=M) (R:=fun x=>x∈B/\RchB l0 q0 (pr x)) (fun y hy e he=>by
   have h1:(⟨pr y,pr (toE e),e.a⟩:Edg)∈q0:=(hr.m y hy.1 _ _).2 ⟨e,he,rfl,rfl⟩
   exact ⟨hx.cl y hy.1 e he,.step (e:=⟨pr y,pr (toE e),e.a⟩) hy.2 h1⟩) 64 0 (Zk [] l) (fun y hy=>by
   rcases (Wt _ _ _).1 hy with h1 | h1
   ·exact absurd h1 (by simp)
   ·exact ⟨hx.beg y h1,.init ((hr.f _).2 ⟨y,h1,rfl⟩)⟩)
  exact (h1 x (hx.pb.mem_iff.1 hxB)).2
include hn in
omit hr in
theorem Uk {x:E} (hxB:x∈B):0<=pr x/\pr x<240/\((pN x:Nat):Int)=pr x:=by
 have:=hx.ins x hxB
 unfold InS at this
 unfold pN pr
 omega
include hn hS
theorem pN_seen {x:E} (hxB:x∈B):pN x<240/\S.getD (pN x) false=true:=by
 obtain ⟨h1,h2,h3⟩:=Uk hn hx hxB
 exact ⟨by omega,(hS (pr x) h1 h2).2 ((rch_iff hx hr _).2 ⟨x,hxB,rfl⟩)⟩
theorem seen_eq:ZU S 240=B.map pN:=by
 refine asc_ext (seenR_asc S 240) ?_ fun k=>?_
 ·rw [List.pairwise_map]
  refine List.Pairwise.imp_of_mem (fun {x y} hxB hyB hlt=>?_) hx.asc
  have h1:=Uk hn hx hxB
  have h2:=Uk hn hx hyB
  have a:=hx.ins x hxB
  have b:=hx.ins y hyB
  unfold InS at a b
  unfold ltB at hlt
  unfold pr at h1 h2
  omega
 ·rw [mem_seenR,List.mem_map]
  constructor
  ·rintro ⟨hk,hs⟩
   have h1:=(hS (k:Int) (by omega) (by omega)).1 (by unfold SD; simpa using hs)
   obtain ⟨x,hxB,e⟩:=(rch_iff hx hr _).1 h1
   have:=Uk hn hx hxB
   exact ⟨x,hxB,by omega⟩
  ·rintro ⟨x,hxB,rfl⟩
   exact pN_seen hn hx hr hS hxB
theorem rk_eq {x:E} (hxB:x∈B):rk S (pN x)=B.idxOf x:=by
 obtain ⟨h1,h2⟩:=pN_seen hn hx hr hS hxB
 obtain ⟨h3,h4⟩:=seenR_at h1 h2
 have e:=seen_eq hn hx hr hS
 have h5:rk S (pN x)<B.length:=by rw [e,List.length_map] at h3; exact h3
 have h6:pN B[rk S (pN x)]=pN x:=by
  have:(B.map pN)[rk S (pN x)]?=some (pN x):=by rw [<-e,List.getElem?_eq_getElem h3,h4]
  rw [List.getElem?_map,List.getElem?_eq_getElem h5] at this
  exact Option.some.inj this
 have m1:=Uk hn hx (List.getElem_mem h5)
 have m2:=Uk hn hx hxB
 have i1:=hx.ins _ (List.getElem_mem h5)
 have i2:=hx.ins x hxB
 have h7:B[rk S (pN x)]=x:=pr_inj i1.2 i2.2 (by omega)
 obtain ⟨k1,k2⟩:=ZK hxB
 rw [Zi k1] at k2
 exact (List.getElem_inj (asc_nodup hx.asc)).1 (h7.trans k2.symm)
theorem rk_all:rk S 240=B.length:=by
 unfold rk
 rw [seen_eq hn hx hr hS,List.length_map]
include hl ha in
theorem ref_eq:refX S l0 q0=mkX B (nums B l) E':=by
 have e1:=seen_eq hn hx hr hS
 have e2:=rk_all hn hx hr hS
 have hf:firF l0 240=l.map pN:=by
  refine asc_ext (List.pairwise_lt_range.filter _) ?_ fun k=>?_
  ·rw [List.pairwise_map]
   refine List.Pairwise.imp_of_mem (fun {x y} hxl hyl hlt=>?_) hl
   have h1:=Uk hn hx (hx.beg x hxl)
   have h2:=Uk hn hx (hx.beg y hyl)
   have a:=hx.ins x (hx.beg x hxl)
   have b:=hx.ins y (hx.beg y hyl)
   unfold InS at a b
   unfold ltB at hlt
   unfold pr at h1 h2
   omega
  ·unfold firF
   rw [List.mem_filter,List.mem_range,List.mem_map]
   unfold hasI
   rw [List.any_eq_true]
   constructor
   ·rintro ⟨hk,v,hv,e⟩
    rw [decide_eq_true_iff] at e
    rw [<-e] at hv
    obtain ⟨x,hxl,e3⟩:=(hr.f _).1 hv
    have:=Uk hn hx (hx.beg x hxl)
    exact ⟨x,hxl,by omega⟩
   ·rintro ⟨x,hxl,rfl⟩
    have:=Uk hn hx (hx.beg x hxl)
    exact ⟨by omega,pr x,(hr.f _).2 ⟨x,hxl,rfl⟩,by rw [decide_eq_true_iff]; exact this.2.2⟩
 have e3:(l.map pN).map (rk S)=l.map fun x=>B.idxOf x:=by
  rw [List.map_map]
  exact List.map_congr_left fun x hxl=>rk_eq hn hx hr hS (hx.beg x hxl)
 have e4:natI ((firF l0 240).map (rk S))=nums B l:=by
  rw [hf,e3]
  unfold natI nums
  rw [List.map_map]
  rfl
 have e5:natI ((ZU S 240).map (· / 8))=B.map Prod.fst:=by
  rw [e1,List.map_map]
  unfold natI
  rw [List.map_map]
  refine List.map_congr_left fun x hxB=>?_
  have h1:=Uk hn hx hxB
  have a:=hx.ins x hxB
  unfold InS at a
  unfold pr at h1
  show ((pN x / 8:Nat):Int)=x.1
  omega
 have e6:natI ((ZU S 240).map (· % 8))=B.map Prod.snd:=by
  rw [e1,List.map_map]
  unfold natI
  rw [List.map_map]
  refine List.map_congr_left fun x hxB=>?_
  have h1:=Uk hn hx hxB
  have a:=hx.ins x hxB
  unfold InS at a
  unfold pr at h1
  show ((pN x % 8:Nat):Int)=x.2
  omega
 have e7:eN S q0 240=E':=by
  refine ordE_ext (eN_asc S q0) hx.po fun e=>?_
  rw [mem_eN]
  constructor
  ·rintro ⟨k,m,a,hk,hm,ha2,hs,hs2,hq,rfl⟩
   obtain ⟨x,hi,hfx⟩:=hr.s _ hq
   have r1:=(hS (k:Int) (by omega) (by omega)).1 (by unfold SD; simpa using hs)
   obtain ⟨y,hyB,hky⟩:=(rch_iff hx hr _).1 r1
   have q1:(⟨pr y,(m:Int),(a:Int)⟩:Edg)∈q0:=by rw [<-hky]; exact hq
   obtain ⟨e',he',h1,h2⟩:=(hr.m y hyB _ _).1 q1
   have hB':=hx.cl y hyB e' he'
   have m1:=Uk hn hx hyB
   have m2:=Uk hn hx hB'
   have k1:k=pN y:=by omega
   have k2:m=pN (toE e'):=by omega
   rw [k1,k2,rk_eq hn hx hr hS hyB,rk_eq hn hx hr hS hB',h2]
   rw [hx.pm,mem_rawE]
   obtain ⟨w1,w2⟩:=ZK hyB
   exact ⟨B.idxOf y,w1,e',by rw [w2]; exact he',by rw [Nat.zero_add]⟩
  ·intro he
   obtain ⟨k,hk,m,hm,rfl,hmB⟩:=hx.mem he
   have hkB:ge B k∈B:=by rw [Zi hk]; exact List.getElem_mem hk
   have h1:=ha _ hkB m hm
   have m1:=Uk hn hx hkB
   have m2:=Uk hn hx hmB
   have hik:B.idxOf (ge B k)=k:=by
    obtain ⟨w1,w2⟩:=ZK hkB
    have w4:B[B.idxOf (ge B k)]=B[k]:=(Zi w1).symm.trans (w2.trans (Zi hk))
    exact (List.getElem_inj (asc_nodup hx.asc)).1 w4
   refine ⟨pN (ge B k),pN (toE m),m.a.toNat,by omega,by omega,by omega,(pN_seen hn hx hr hS hkB).2,(pN_seen hn hx hr hS hmB).2,?_,?_⟩
   ·rw [m1.2.2,m2.2.2,show ((m.a.toNat:Nat):Int)=m.a by omega]
    exact (hr.m _ hkB _ _).2 ⟨m,hm,rfl,rfl⟩
   ·rw [rk_eq hn hx hr hS hkB,rk_eq hn hx hr hS hmB,hik,show ((m.a.toNat:Nat):Int)=m.a by omega]
 unfold refX mkX
 rw [e2,e4,e5,e6,e7]
end
end Go.D.StS
end
/- Chapter 22: the reference of history. -/
section
set_option linter.unusedVariables false
set_option linter.unusedSimpArgs false
namespace Go.D.StS
open Go.D.Srt
theorem b_mul8 {a:Int} (h:0<=a/\a<=1000000):binOp PP .mul 3 (.p (.int .i64 a)) (.p (.int .i64 8))=some (.p (.int .i64 (a*8))):=by
 rw [b_mul,QE (by omega) (by omega)]
theorem b_addI {a b:Int} (h:0<=a/\a<=100000000) (h2:0<=b/\b<=1000000):binOp PP .add 3 (.p (.int .i64 a)) (.p (.int .i64 b))=some (.p (.int .i64 (a+b))):=by
 rw [Wa,QE (by omega) (by omega)]
theorem S59 {s v:Int} (hs:0<=s/\s<=1000) (hv:0<=v/\v<=7) (σ:Qa):Qv CC 59 [.p (.int .i64 s),.p (.int .i64 v)] σ=some (.p (.int .i64 (pr (s,v)))):=by
 refine Qk rfl rfl (F59_call (r:=(.p (.int .i64 (pr (s,v))),[])) ?_) rfl
 rw [F59_eq,b_mul8 (by omega)]
 simp only [Qz]
 rw [b_addI (by omega) (by omega)]
 rfl
theorem bytes109:bytes? PP 109=some 24:=Eq.trans (by kernel_rfl) rfl
theorem zero109:Qx PP 109=some [.p (pI 0),.p (pI 0),.p (pI 0)]:=Eq.trans (by kernel_rfl) rfl
theorem src106:ZQ PP 106=true:=Eq.trans (by kernel_rfl) rfl
theorem bld109 (x y z:Int):build PP 109 [(0,.p (.int .i64 x)),(1,.p (.int .i64 y)),(2,.p (.int .i64 z))]=some (.agg (edgD ⟨x,y,z⟩)):=Eq.trans (by kernel_rfl) rfl
theorem bs106 (e:Edg) (σ:Qa):buildSlice PP none 106 1 [(0,.agg (edgD e))] σ=some (.p (.sl true 1 (eEdg e)),σ):=Eq.trans (by kernel_rfl) rfl
section
variable {g : Gr} {h : Hs} (hg : GOk g) (hh : HOk g h) (hn : g.n <= 30) (he : (L g.edges).length <= 120)
include hg hh hn he
end
end Go.D.StS
end
/- Chapter 22: results compared; numbers of pairs. -/
section
set_option linter.unusedVariables false
set_option linter.unusedSimpArgs false
namespace Go.D.StS
open Go.D.Srt
theorem S21 {x:Ax} (h1:x.g.n<=400) (h2:(L x.g.edges).length<=2000) (σ:Qa):Qv CC 21 [.agg (eAx x)] σ=some (.p (.bool false)):=by
 have g0:([Row.mix (eAx x)]:Qa)[0]?=some (.mix (eAx x)):=rfl
 have q1:¬ (x.g.n>400):=by omega
 have q2:¬ (((L x.g.edges).length:Int)>2000):=by omega
 refine Qk (by simp [WZ]) rfl (F21_call (r:=(.p (.bool false),[.mix (eAx x)])) ?_) rfl
 rw [F21_eq]
 simp only [Ua,gG,List.length_nil,List.nil_append,Wq,We,Zg,gP,QF,Zc,Qc (off:=0) g0 (v:=.p (.int .i64 x.g.n)) rfl,Qc (off:=2) g0 (v:=.p (eEs x.g.edges)) rfl,Zh,gtF q1,gtF q2,Ww]
theorem neE' (a b c a' b' c':Int):binOp PP .neq 69 (.agg (edgD ⟨a,b,c⟩)) (.agg (edgD ⟨a',b',c'⟩))=((match some (a==a') with | some true=>(match some (b==b') with | some true=>(match some (c==c') with | some true=>some true | r=>r) | r=>r) | r=>r):Option Bool).map fun b=>.p (.bool !b):=by kernel_rfl
theorem neE (x:Edg):binOp PP .neq 69 (.agg (edgD x)) (.agg (edgD x))=some (.p (.bool false)):=by
 obtain ⟨a,b,c⟩:=x
 rw [neE']
 simp
section
variable {a b : Gr} (hn : a.n = b.n) (hi : L a.init = L b.init) (he : L a.edges = L b.edges) (hil : (L a.init).length <= 1000) (hel : (L a.edges).length <= 10000)
include hn hi he hil hel
omit hn hi hil in
theorem L93 {σ:Qa} (g0:σ[0]?=some (.mix (eGr a))) (g1:σ[1]?=some (.mix (eGr b))):∀ (d i:Nat),(L a.edges).length-i=d->i<=(L a.edges).length->
  f93_L0 Qb 0 (.ptr 0 0) (.ptr 1 0) (N i) σ=some (.p (.bool true),σ)
 | 0,i,hd,hj=>by
  rw [f93_L0_eq Qb rfl]
  simp (disch:=omega) only [N,Zg,gP,Zc,Qc (off:=2) g0 (v:=.p (eEs a.edges)) rfl,Ww,Qn,ltF,gG]
 | d+1,i,hd,hj=>by
  have hil:i<(L a.edges).length:=by omega
  have hil2:i<(L b.edges).length:=by rw [<-he]; exact hil
  have ih:=L93 g0 g1 d (i+1) (by omega) (by omega)
  have hld:=ld69 hil2 σ
  rw [<-he] at hld
  rw [f93_L0_eq Qb rfl]
  have ix2:=Uq (o:=b.edges) hil2
  rw [<-he] at ix2
  simp (disch:=omega) only [N,Zg,gP,Zc,Qc (off:=2) g0 (v:=.p (eEs a.edges)) rfl,Qc (off:=2) g1 (v:=.p (eEs b.edges)) rfl,Ww,Qn,ltT,gG,Uq,ix2,UC,ld69,hld,neE,add1]
  exact ih
theorem S93 (σ:Qa):Qv CC 93 [.agg (eGr a),.agg (eGr b)] σ=some (.p (.bool true)):=by
 have g0:([Row.mix (eGr a),.mix (eGr b)]:Qa)[0]?=some (.mix (eGr a)):=rfl
 have g1:([Row.mix (eGr a),.mix (eGr b)]:Qa)[1]?=some (.mix (eGr b)):=rfl
 have hL:=L93 he hel g0 g1 _ 0 rfl (Nat.zero_le _)
 have q1:((L a.edges).length:Int)=((L b.edges).length:Nat):=by rw [he]
 refine Qk (by simp [Zz]) rfl (F93_call (r:=(.p (.bool true),[.mix (eGr a),.mix (eGr b)])) ?_) rfl
 rw [F93_eq]
 simp only [Zr,gG,List.length_nil,List.nil_append,List.length_cons,List.cons_append,We,WE,Zg,gP,QF,QO,Zc,Qc (off:=0) g0 (v:=.p (.int .i64 a.n)) rfl,Qc (off:=0) g1 (v:=.p (.int .i64 b.n)) rfl,Qc (off:=1) g0 (v:=.p (eSl a.init)) rfl,Qc (off:=1) g1 (v:=.p (eSl b.init)) rfl,
  Qc (off:=2) g0 (v:=.p (eEs a.edges)) rfl,Qc (off:=2) g1 (v:=.p (eEs b.edges)) rfl,Wh,eqT hn,S34 hi hil,Ww,eqT q1]
 exact hL
end
structure SameX (x y:Ax):Prop where
 n:x.g.n=y.g.n
 i:L x.g.init=L y.g.init
 e:L x.g.edges=L y.g.edges
 b:L x.b=L y.b
 a:L x.a=L y.a
theorem S58 {x y:Ax} (h:SameX x y) (hs:XSm x) (σ:Qa):Qv CC 58 [.agg (eAx x),.agg (eAx y)] σ=some (.p (.bool true)):=by
 have g0:([Row.mix (eAx x),.mix (eAx y)]:Qa)[0]?=some (.mix (eAx x)):=rfl
 have g1:([Row.mix (eAx x),.mix (eAx y)]:Qa)[1]?=some (.mix (eAx y)):=rfl
 refine Qk (by simp [WZ]) rfl (F58_call (r:=(.p (.bool true),[.mix (eAx x),.mix (eAx y)])) ?_) rfl
 rw [F58_eq]
 simp only [Ua,gG,List.length_nil,List.nil_append,List.length_cons,List.cons_append,Wq,Wi,Vd,gP,ax_g g0,ax_g g1,S93 h.n h.i h.e hs.i hs.e,QO,Qc (off:=3) g0 (v:=.p (eSl x.b)) rfl,Qc (off:=3) g1 (v:=.p (eSl y.b)) rfl,S34 h.b hs.b,Qc (off:=4) g0 (v:=.p (eSl x.a)) rfl,Qc (off:=4) g1 (v:=.p (eSl y.a)) rfl,S34 h.a hs.a]
def eRs (x:Ax) (e:Int):List DV:=[.p (pI x.g.n),.p (eSl x.g.init),.p (eEs x.g.edges),.p (eSl x.b),.p (eSl x.a),.p (.int .i64 e)]
theorem bld46 (x:Ax) (e:Int):build PP 46 [(0,.agg (eAx x)),(1,.p (.int .i64 e))]=some (.agg (eRs x e)):=Eq.trans (by kernel_rfl) rfl
theorem fa46_0 (x:DV):fieldAddr PP 46 x 0=QL x 0:=Eq.trans (by kernel_rfl) rfl
theorem fa46_1 (x:DV):fieldAddr PP 46 x 1=QL x 5:=Eq.trans (by kernel_rfl) rfl
theorem box_rs (x:Ax) (e:Int):boxV (.agg (eRs x e))=some (eRs x e):=rfl
theorem rs_view (x:Ax) (e:Int):view (.agg (eRs x e))=.agg (eRs x e):=by simp [view,Zw,eRs,ZO,WU,Zs]
theorem rs_x {σ:Qa} {r:Nat} {x:Ax} {e:Int} (h:σ[r]?=some (.mix (eRs x e))):load PP 33 (.ptr r 0) σ=some (.agg (eAx x)):=by
 rw [load33,QI (vs:=eAx x) h rfl (by simp [eRs])]; rfl
theorem S19a {x y:Ax} (h:SameX x y) (hs:XSm x) (h1:y.g.n<=400) (h2:(L y.g.edges).length<=2000) (σ:Qa):Qv CC 19 [.agg (eRs x 0),.p (.int .i64 0),.agg (eAx y)] σ=some (.p (.bool true)):=by
 have g0:([Row.mix (eRs x 0),.mix (eAx y)]:Qa)[0]?=some (.mix (eRs x 0)):=rfl
 have g1:([Row.mix (eRs x 0),.mix (eAx y)]:Qa)[1]?=some (.mix (eAx y)):=rfl
 have q:decide ((0:Int)=0)=true:=rfl
 refine Qk (by simp [WZ,rs_view]; rfl) rfl (F19_call (r:=(.p (.bool true),[.mix (eRs x 0),.mix (eAx y)])) ?_) rfl
 rw [F19_eq]
 simp only [Ua,box_rs,gG,List.length_nil,List.nil_append,List.length_cons,List.cons_append,QV,q,gP,VE g1,S21 h1 h2,f19_J0_eq,Wh,fa46_0,fa46_1,load34,Qc (off:=5) g0 (v:=.p (.int .i64 0)) rfl,rs_x g0,S58 h hs]
theorem S19b {c:Int} (hc:c≠0) (σ:Qa):Qv CC 19 [.agg (eRs zAx c),.p (.int .i64 c),.agg (eAx zAx)] σ=some (.p (.bool true)):=by
 have g0:([Row.mix (eRs zAx c),.mix (eAx zAx)]:Qa)[0]?=some (.mix (eRs zAx c)):=rfl
 have q:decide (c=c)=true:=decide_eq_true rfl
 have hs:XSm zAx:=⟨by simp [zAx,L],by simp [zAx,L],by simp [zAx,L],by simp [zAx,L]⟩
 refine Qk (by simp [WZ,rs_view]; rfl) rfl (F19_call (r:=(.p (.bool true),[.mix (eRs zAx c),.mix (eAx zAx)])) ?_) rfl
 rw [F19_eq]
 simp only [Ua,box_rs,gG,List.length_nil,List.nil_append,List.length_cons,List.cons_append,QV,eqF hc,gP,f19_J0_eq,Wh,fa46_0,fa46_1,load34,Qc (off:=5) g0 (v:=.p (.int .i64 c)) rfl,q,rs_x g0,bld33_0,S58 ⟨rfl,rfl,rfl,rfl,rfl⟩ hs]
section
variable {x : Ax} {B : List E} (hb : L x.b = B.map Prod.fst) (ha : L x.a = B.map Prod.snd) (hB : Asc B) (hBl : B.length <= 1000)
include hb ha hB hBl
theorem L64 {σ:Qa} (g0:σ[0]?=some (.mix (eAx x))) {e:E} (he:e∈B):∀ (d i:Nat),B.idxOf e-i=d->i<=B.idxOf e->f64_L0 Qb 0 (.p (.int .i64 e.1)) (.p (.int .i64 e.2)) (.ptr 0 0) (N i) σ=some (.p (.int .i64 (B.idxOf e:Nat)),σ):=by
 intro d
 induction d with
 | zero=>
  intro i hd hi
  have hei:B.idxOf e=i:=by omega
  obtain ⟨k1,k2⟩:=ZK he
  rw [hei] at k1 k2
  have hbl:(L x.b).length=B.length:=by rw [hb,List.length_map]
  have hal:(L x.a).length=B.length:=by rw [ha,List.length_map]
  have ixb:=ZS (o:=x.b) (i:=i) (by omega)
  have ixa:=ZS (o:=x.a) (i:=i) (by omega)
  have ldb:=QC (l:=L x.b) (i:=i) (by omega) σ
  have lda:=QC (l:=L x.a) (i:=i) (by omega) σ
  have q1:(L x.b).getD i 0=e.1:=by rw [hb,Zp 0 (by simpa using k1),List.getElem_map,<-Zi k1,k2]
  have q2:(L x.a).getD i 0=e.2:=by rw [ha,Zp 0 (by simpa using k1),List.getElem_map,<-Zi k1,k2]
  rw [q1] at ldb
  rw [q2] at lda
  simp only [pI] at ldb lda
  have q3:decide (e.1=e.1)=true:=decide_eq_true rfl
  have q4:decide (e.2=e.2)=true:=decide_eq_true rfl
  rw [f64_L0_eq Qb rfl,hei]
  simp (disch:=omega) only [N,Wi,Vd,gP,QO,Qc (off:=3) g0 (v:=.p (eSl x.b)) rfl,Qc (off:=4) g0 (v:=.p (eSl x.a)) rfl,QZ,Qn,ltT,gG,ixb,ixa,QF,ldb,lda,QV,q3,q4]
 | succ d ih=>
  intro i hd hi
  obtain ⟨k1,k2⟩:=ZK he
  have hil:i<B.length:=by omega
  have hbl:(L x.b).length=B.length:=by rw [hb,List.length_map]
  have hal:(L x.a).length=B.length:=by rw [ha,List.length_map]
  have ixb:=ZS (o:=x.b) (i:=i) (by omega)
  have ixa:=ZS (o:=x.a) (i:=i) (by omega)
  have ldb:=QC (l:=L x.b) (i:=i) (by omega) σ
  have lda:=QC (l:=L x.a) (i:=i) (by omega) σ
  have q1:(L x.b).getD i 0=(ge B i).1:=by rw [hb,Zp 0 (by simpa using hil),List.getElem_map,<-Zi hil]
  have q2:(L x.a).getD i 0=(ge B i).2:=by rw [ha,Zp 0 (by simpa using hil),List.getElem_map,<-Zi hil]
  rw [q1] at ldb
  rw [q2] at lda
  simp only [pI] at ldb lda
  have hne:ge B i≠e:=fun h=>by
   rw [Zi k1] at k2
   rw [Zi hil] at h
   have:=(List.getElem_inj (asc_nodup hB)).1 (h.trans k2.symm)
   omega
  have r1:=ih (i+1) (by omega) (by omega)
  rw [<-r1,f64_L0_eq Qb rfl]
  by_cases h1:(ge B i).1=e.1
  ·have h2:¬ (ge B i).2=e.2:=fun h2=>hne (Prod.ext h1 h2)
   simp (disch:=omega) only [N,Wi,Vd,gP,QO,Qc (off:=3) g0 (v:=.p (eSl x.b)) rfl,Qc (off:=4) g0 (v:=.p (eSl x.a)) rfl,QZ,Qn,ltT,gG,ixb,ixa,QF,ldb,lda,QV,eqT h1,eqF h2,add1]
  ·simp (disch:=omega) only [N,Wi,Vd,gP,QO,Qc (off:=3) g0 (v:=.p (eSl x.b)) rfl,Qc (off:=4) g0 (v:=.p (eSl x.a)) rfl,QZ,Qn,ltT,gG,ixb,ixa,QF,ldb,lda,QV,eqF h1,add1]
theorem S64 {e:E} (he:e∈B) (σ:Qa):Qv CC 64 [.agg (eAx x),.p (.int .i64 e.1),.p (.int .i64 e.2)] σ=some (.p (.int .i64 (B.idxOf e:Nat))):=by
 have g0:([Row.mix (eAx x)]:Qa)[0]?=some (.mix (eAx x)):=rfl
 refine Qk (by simp [WZ]; exact ⟨rfl,rfl⟩) rfl (F64_call (r:=(.p (.int .i64 (B.idxOf e:Nat)),[.mix (eAx x)])) ?_) rfl
 rw [F64_eq]
 simp only [Ua,gG,List.length_nil,List.nil_append]
 exact L64 hb ha hB hBl g0 he _ 0 rfl (Nat.zero_le _)
end
end Go.D.StS
end
/- Chapter 22: paths lifted by a history variable. -/
section
set_option linter.unusedVariables false
set_option linter.unusedSimpArgs false
namespace Go.D.StS
open Go.D.Srt
theorem slice1L {l:List Int} (h:1<=l.length):Zy PP 22 (.p (eSl (some l))) (some (.p (.int .i64 1))) none none=some (.p (eSl (some (l.drop 1)))):=by
 have h1:(1:Int)<=(l.length:Nat):=by omega
 have e:((Qr l).drop 1).take (l.length-1)=Qr (l.drop 1):=by
  rw [List.take_of_length_le (by simp [Qr])]
  simp [Qr]
 simp [Zy,u22,s3,Wj,eSl,h1,h]
 simpa using e
def LO (σ:Qa) (lo n:Nat) (cs:List PV) (y:DV):Prop:=(y=.p (.sl true n cs)/\cs.length=n/\n≠0)\/(n≠0/\Out σ lo 1 n cs y)
theorem LO.push {σ:Qa} {B n:Nat} {cs:List PV} {y:DV} (h:LO σ B n cs y) (hn:n<=1000000) (hB:B<=σ.length) (v:PV) :
  ∃ y' σ',append PP 0 false 22 22 y (.p (.sl true 1 [v])) σ=some (y',σ')/\LO σ' B (n+1) (cs++[v]) y'/\(∀ (j:Nat) (row:Row),(∀ ver,row≠.tok ver)->σ[j]?=some row->σ'[j]?=some row)/\B<=σ'.length:=by
 rcases h with ⟨rfl,h1,h2⟩ | ⟨h0,ho⟩
 ·refine ⟨.osl σ.length 0 1 (n+1) (cs++[v]),σ++[.tok 0],?_,.inr ⟨by omega,by simp [h1],.inr ⟨by omega,σ.length,0,rfl,QB,hB⟩⟩,fun j row _ g=>QM g,by simp; omega⟩
  have hsrc:ZE σ 1 (.p (.sl true 1 [v]))=some (1,[DV.p v]):=rfl
  have e1:(n+1)*8<=140737488355328:=by omega
  have e2:n+1<=140737488355328:=by omega
  simp only [append,UI,u22,s3,VO,Uy,hsrc,UT]
  simp [e1,e2,h1,Vg,DV.pure?]
 ·obtain ⟨y',σ',p1,p2,p3,p4⟩:=Out.pushG (lo:=0) (vs:=[v]) UI u22 s3 VO Uy rfl (by decide) (by decide) (by decide) rfl ho (by omega) hB (Nat.zero_le _)
  refine ⟨y',σ',p1,.inr ⟨by omega,p2⟩,fun j row hr g=>Others.mix p3 ho g hr,?_⟩
  rcases p2.2 with ⟨e,_⟩ | ⟨_,r,ver,_,e,e2⟩
  ·omega
  ·have:=QT e; omega
theorem LO.all {σ σ':Qa} {lo n m:Nat} {l:List Int} {y:DV} (h:LO σ lo n (Qr l) y):Ze m σ' y=some (.p (eSl (some l)))/\thaw m σ' y=some (.p (eSl (some l)))/\Zx m σ' y=some (.p (eSl (some l))):=by
 rcases h with ⟨rfl,h1,h2⟩ | ⟨h0,ho⟩
 ·have e:Zs (.sl true n (Qr l))=eSl (some l):=by
   rw [Zs,Zu]
   rw [ints_length] at h1
   rw [<-h1]; rfl
  have e2:thaw m σ' (.p (.sl true n (Qr l)))=some (.p (Zs (.sl true n (Qr l)))):=rfl
  have e3:Zx m σ' (.p (.sl true n (Qr l)))=some (.p (Zs (.sl true n (Qr l)))):=rfl
  have e4:Ze m σ' (.p (.sl true n (Qr l)))=some (.p (Zs (.sl true n (Qr l)))):=rfl
  rw [e2,e3,e4,e]
  exact ⟨rfl,rfl,rfl⟩
 ·have hl:l.length=n:=by have:=ho.1; rw [ints_length] at this; omega
  rcases ho.2 with ⟨h1,_⟩ | ⟨_,r,ver,rfl,_,_⟩
  ·exact absurd h1 h0
  ·have e:(DV.p (.sl false n (QP (Qr l))))=.p (eSl (some l)):=by rw [Zu,<-hl]; rfl
   have e2:thaw m σ' (.osl r ver 1 n (Qr l))=some (.p (.sl false n (QP (Qr l)))):=rfl
   have e3:Zx m σ' (.osl r ver 1 n (Qr l))=some (.p (.sl false n (QP (Qr l)))):=rfl
   have e4:Ze m σ' (.osl r ver 1 n (Qr l))=some (.p (.sl false n (QP (Qr l)))):=rfl
   rw [e2,e3,e4,e]
   exact ⟨rfl,rfl,rfl⟩
theorem LO.low {σ:Qa} {lo n:Nat} {cs:List PV} {y:DV} (h:LO σ lo n cs y) {q:Nat} (hq:q<lo) (row:Row):LO (σ.set q row) lo n cs y:=by
 rcases h with h1 | ⟨h0,ho⟩
 ·exact .inl h1
 ·exact .inr ⟨h0,Out.setLow ho hq row⟩
theorem idxFrom_any {α:Type} [Inhabited α] (q:α->Bool):∀ (l:List α) (i:Nat),l.any q=true->∃ j,j<l.length/\QG q l i=((i+j:Nat):Int)/\q (l.getD j default)=true
 | [],i,h=>by simp at h
 | a::l,i,h=>by
  unfold QG
  by_cases h1:q a=true
  ·exact ⟨0,by simp,by rw [if_pos h1]; rfl,h1⟩
  ·have h2:l.any q=true:=by
    rw [List.any_cons,Bool.or_eq_true] at h; rcases h with h | h
    ·exact absurd h h1
    ·exact h
   obtain ⟨j,h3,h4,h5⟩:=idxFrom_any q l (i+1) h2
   exact ⟨j+1,by simpa using h3,by rw [if_neg h1,h4]; congr 1; omega,by simpa using h5⟩
structure PthOk (g:Gr) (p:List Int):Prop where
 ne:p.length≠0
 le:p.length<=60
 inr:∀ k,k<p.length->0<=p.getD k 0/\p.getD k 0<g.n
 ini:p.getD 0 0∈L g.init
 stp:∀ k,k+1<p.length->(L g.edges).any (VK (p.getD k 0) (p.getD (k+1) 0))=true
theorem pth_ok {g:Gr} {p:List Int} (hg:GOk g) (h:pthE g p=0):PthOk g p:=by
 unfold pthE at h
 by_cases h1:p.length=0
 ·rw [if_pos h1] at h; exact absurd h (by decide)
 ·rw [if_neg h1] at h
  by_cases h2:p.length>60
  ·rw [if_pos h2] at h; exact absurd h (by decide)
  ·rw [if_neg h2] at h
   cases h3:p.any (badN g) with
   | true=>rw [h3] at h; simp at h
   | false=>
    rw [h3] at h
    simp only [Bool.false_eq_true,if_false] at h
    by_cases h4:(hasI (L g.init) (p.getD 0 0)&&QK (stpK g p) 1 (p.length-1))=true
    ·rw [Bool.and_eq_true,allFrom_iff] at h4
     refine ⟨h1,by omega,fun k hk=>?_,?_,fun k hk=>?_⟩
     ·have:=any_false h3 k hk
      have hp:pred g.n=g.n-1:=by have:=hg.n0; exact QE (by omega) (by omega)
      unfold badN at this
      have h6:inR (p.getD k 0) 0 (pred g.n)=true:=by simpa using this
      rw [WJ,hp] at h6
      omega
     ·have:=h4.1
      unfold hasI at this
      rw [List.any_eq_true] at this
      obtain ⟨v,hv,e⟩:=this
      rw [decide_eq_true_iff] at e
      rw [e]; exact hv
     ·have:=h4.2 (k+1) (by omega) (by omega)
      unfold stpK at this
      rwa [Nat.add_sub_cancel] at this
    ·rw [if_neg h4] at h; exact absurd h (by decide)
def sI (g:Gr) (p:List Int) (k:Nat):Nat:=(QG (VK (p.getD k 0) (p.getD (k+1) 0)) (L g.edges) 0).toNat
theorem Jo {g:Gr} {p:List Int} (hp:PthOk g p) {k:Nat} (hk:k+1<p.length):sI g p k<(L g.edges).length/\QG (VK (p.getD k 0) (p.getD (k+1) 0)) (L g.edges) 0=((sI g p k:Nat):Int)/\(gE (L g.edges) (sI g p k)).f=p.getD k 0/\(gE (L g.edges) (sI g p k)).t=p.getD (k+1) 0:=by
 obtain ⟨j,h1,h2,h3⟩:=idxFrom_any (VK (p.getD k 0) (p.getD (k+1) 0)) (L g.edges) 0 (hp.stp k hk)
 rw [Nat.zero_add] at h2
 have e:sI g p k=j:=by unfold sI; rw [h2]; rfl
 rw [e]
 unfold VK at h3
 rw [Bool.and_eq_true,decide_eq_true_iff,decide_eq_true_iff] at h3
 exact ⟨h1,h2,h3.1,h3.2⟩
section
variable {g : Gr} {h : Hs} {B : List E} {E' : List Edg} {p : List Int} (hx : ExtG g.n (fun x => oE (mvH g h x)) (iniH g h) B E') (hp : PthOk g p)
include hx hp
end
end Go.D.StS
end
/- Chapter 22: LiftHistory, in the program and in the reference. -/
section
set_option linter.unusedVariables false
set_option linter.unusedSimpArgs false
namespace Go.D.StS
open Go.D.Srt
section
variable {g : Gr} {h : Hs} {B : List E} {E' : List Edg} {o : OI} (hh : HOk g h) (he : (L g.edges).length <= 16) (hx : ExtG g.n (fun x => oE (mvH g h x)) (iniH g h) B E') (hp : PthOk g (L o))
include hh he hx hp
end
section
variable {g : Gr} {h : Hs} {B : List E} {E' : List Edg} {o : OI} (hh : HOk g h) (he : (L g.edges).length <= 16) (hx : ExtG g.n (fun x => oE (mvH g h x)) (iniH g h) B E') (hp : PthOk g (L o))
include hh he hx hp
end
end Go.D.StS
end
/- Chapter 22: LiftHistory as a whole; lifted paths hidden again. -/
section
set_option linter.unusedVariables false
set_option linter.unusedSimpArgs false
namespace Go.D.StS
open Go.D.Srt
theorem bs143_2i (x y:Int) (σ:Qa):buildSlice PP none 143 2 [(0,.p (.int .i64 x)),(1,.p (.int .i64 y))] σ=some (.p (.sl true 2 (Qr [x,y])),σ):=bs143_2' x y σ
section
variable {g : Gr} {h : Hs} {o : OI}
section
variable (hg:GOk g) (hh:HOk g h) (hn:g.n<=8) (he:(L g.edges).length<=16) (h0:errH g h=0) (hol:(L o).length<=1000)
include hg hh hn he h0 hol
end
end
end Go.D.StS
end
/- Chapter 22: lifted paths are paths, and hidden they are the path again. -/
section
set_option linter.unusedVariables false
set_option linter.unusedSimpArgs false
namespace Go.D.StS
open Go.D.Srt
theorem ext_uniq {n:Int} {M:E->OE} {l B B2:List E} {E1 E2:List Edg} (h:ExtG n M l B E1) (h2:ExtG n M l B2 E2):B=B2/\E1=E2:=by
 have e:B=B2:=sorted_eq (h.pb.trans h2.pb.symm) (asc_le h.asc) (asc_le h2.asc)
 subst e
 exact ⟨rfl,ordE_ext h.po h2.po fun x=>(h.pm x).trans (h2.pm x).symm⟩
structure LiftOk (n:Int) (M:E->OE) (l B:List E) (E':List Edg) (p:List Int) (s:Nat->E) (nl:List Int):Prop where
 len:nl.length=p.length
 at':∀ k,k<p.length->nl.getD k 0=((B.idxOf (s k):Nat):Int)
 mem:∀ k,k<p.length->s k∈B
 fst:∀ k,k<p.length->(s k).1=p.getD k 0
 ini:s 0∈l
 stp:∀ k,k+1<p.length->∃ e∈L (M (s k)),toE e=s (k+1)/\e.a≠11
section
variable {n : Int} {M : E -> OE} {l B : List E} {E' : List Edg} {p nl : List Int} {s : Nat -> E} {Y : Ax} (hx : ExtG n M l B E') (hl : LiftOk n M l B E' p s nl) (h0 : p.length ≠ 0) (h60 : p.length <= 60) (hBl : B.length <= 400)
variable (yb:L Y.b=B.map Prod.fst) (yn:Y.g.n=(B.length:Nat)) (yi:L Y.g.init=nums B l) (ye:L Y.g.edges=E')
include hx hl
end
end Go.D.StS
end
