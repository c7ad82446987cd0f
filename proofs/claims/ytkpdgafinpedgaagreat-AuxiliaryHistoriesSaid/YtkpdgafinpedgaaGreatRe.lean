/- Chapter 22: graph, first part: first states, the search, sorting of the states. -/
import Derived.Test.YtkpdgafinpedgaaGreatRd
import Derived.Test.YtkpdgafinpedgaaGreatRc
section
set_option linter.unusedVariables false
set_option linter.unusedSimpArgs false
namespace Go.D.StS
open Go.D.Srt
abbrev OE:=Option (List Edg)
def toE (e:Edg):E:=(e.f,e.t)
theorem u138:PP.underlying 138=some (.slice 141):=Eq.trans (by kernel_rfl) rfl
theorem s141:size? PP 141=some 3:=Eq.trans (by kernel_rfl) rfl
theorem zero141:Qz PP 141=some [.p (pI 0),.p (pI 0),.p (pI 0)]:=Eq.trans (by kernel_rfl) rfl
theorem load141 (x:DV) (σ:Qa):load PP 141 x σ=(Wh σ 3 x).map .agg:=Eq.trans (by kernel_rfl) rfl
theorem fa141_0 (x:DV):fieldAddr PP 141 x 0=QO x 0:=Eq.trans (by kernel_rfl) rfl
theorem fa141_1 (x:DV):fieldAddr PP 141 x 1=QO x 2:=Eq.trans (by kernel_rfl) rfl
theorem len138 (q:OE) (σ:Qa):len PP 138 (.p (eEs q)) σ=some (N (L q).length):=by cases q <;> simp [len,u138,eEs]
theorem idx138 {q:OE} {i:Nat} (h:i<(L q).length):indexAddr PP 138 (.p (eEs q)) (.p (.int .i64 (i:Nat)))=some (.pptr (Ze (L q)) (i*3)):=by
  cases q with
  | none=>exact absurd h (by simp [L])
  | some l=>
    have h2:(0:Int)≤(i:Int)∧(i:Int)<(l.length:Nat):=by
      simp only [L,Option.getD_some] at h; omega
    simp [indexAddr,u138,s141,eEs,h2,L]
def gE (l:List Edg) (k:Nat):Edg:=l.getD k default
theorem Vh {l:List Edg} {k:Nat} (h:k<l.length):gE l k=l[k]:=by unfold gE; rw [List.getD_eq_getElem?_getD,List.getElem?_eq_getElem h]; rfl
theorem ld141 {l:List Edg} {i:Nat} (h:i<l.length) (σ:Qa):(Wh σ 3 (.pptr (Ze l) (i*3))).map DV.agg=some (.agg (edgD (gE l i))):=by
  rw [load69_edgs h,Vh h]; rfl
theorem stN141 {σ:Qa} (e:Edg) {lo:Nat} (hlo:lo≤σ.length):store PP lo 141 (.ptr σ.length 0) (.agg (edgD e)) (σ++[.mix [.p (pI 0),.p (pI 0),.p (pI 0)]])=some (σ++[.mix (edgD e)]):=by
  have e1:(DV.agg (edgD e)).cells=edgD e:=rfl
  have e2:(σ++[Row.mix [.p (pI 0),.p (pI 0),.p (pI 0)]])[σ.length]?=some (.mix [.p (pI 0),.p (pI 0),.p (pI 0)]):=QE
  have e3:QS [DV.p (pI 0),.p (pI 0),.p (pI 0)] 0 (edgD e)=edgD e:=rfl
  have e4:(edgD e).length=3:=rfl
  have e5:(edgD e).all DV.one=true:=rfl
  simp only [store,s141,e1,e4,if_true,Zs,hlo,e2,e5,e3]
  rw [List.set_append_right _ _ (Nat.le_refl _),Nat.sub_self]
  rfl
theorem ldTo {σ:Qa} {s:Nat} {e:Edg} (h:σ[s]?=some (.mix (edgD e))):load PP 102 (.ptr s 0) σ=some (val (toE e)):=by
  rw [loadE,QK (vs:=cel (toE e)) h rfl (by simp [edgD])]; rfl
theorem ldAct {σ:Qa} {s:Nat} {e:Edg} (h:σ[s]?=some (.mix (edgD e))):ZG (.ptr s 2) σ=some (.p (.int .i64 e.a)):=Qd h rfl
def x6 (C:Nat):DV:=.fn 110 [.ptr (C+3) 0,.ptr (C+4) 0]
theorem addAll_ge (A l:List E):A.length≤(Zk A l).length:=by
  induction l generalizing A with
  | nil=>exact Nat.le_refl _
  | cons y l ih=>
    unfold Zk
    split
    · exact ih A
    · exact Nat.le_trans (by simp) (ih _)
theorem addA_ge (A:List E) (y:E):A.length≤(addA A y).length:=by unfold addA; split <;> simp
section
variable {σ0 : Qa} {ext o : List DV}
theorem gr_L0 {l:List E} {x24:DV} (hx:∀ k,k<l.length→indexAddr PP 134 x24 (.p (.int .i64 (k:Nat)))=some (.pptr (Vs l) (k*2))) (hl:l.length≤10000) :
    ∀ (d k:Nat) (A:List E) (σ:Qa),l.length-k=d→k≤l.length→GS σ0 ext (zer A) A o σ→(Zk A (l.drop k)).length≤100000→
    ∃ σ',f85_L0 Qb 0 (.ptr σ0.length 0) (.ptr (σ0.length+1) 0) (.ptr (σ0.length+3) 0) (.ptr (σ0.length+4) 0) (x6 σ0.length) x24 (N l.length) (N k) σ=f85_L1 Qb 0 (.ptr σ0.length 0) (.ptr (σ0.length+1) 0) (.ptr (σ0.length+3) 0) (.ptr (σ0.length+4) 0) (x6 σ0.length) (N 0) σ'∧
      GS σ0 ext (zer (Zk A (l.drop k))) (Zk A (l.drop k)) o σ'
  | 0,k,A,σ,hd,hk,h,hb=>by
    refine ⟨σ,?_,by rw [List.drop_of_length_le (by omega)]; exact h⟩
    rw [f85_L0_eq Qb rfl]
    simp (disch:=omega) only [N,Qp,ltF,gG]
    rfl
  | d+1,k,A,σ,hd,hk,h,hb=>by
    have hkl:k<l.length:=by omega
    have e0:l.drop k=ge l k::l.drop (k+1):=by
      rw [ZA hkl]; exact List.drop_eq_getElem_cons hkl
    rw [e0] at hb ⊢
    have e1:Zk A (ge l k::l.drop (k+1))=Zk (addA A (ge l k)) (l.drop (k+1)):=rfl
    rw [e1] at hb ⊢
    have h1:=h.snoc (.mix (cel (ge l k)))
    have hB:(σ++[Row.mix (cel (ge l k))])[σ.length]?=some (.mix (cel (ge l k))):=QE
    have hsn:=stNew (lo:=0) (σ:=σ) (ge l k) (Nat.zero_le _)
    have hAl:A.length≤100000:=Nat.le_trans (Nat.le_trans (addA_ge A _) (addAll_ge _ _)) hb
    obtain ⟨σ2,p1,p2⟩:=add_ok h1 hAl (ge l k)
    obtain ⟨σ',r1,r2⟩:=gr_L0 hx hl d (k+1) _ σ2 (by omega) (by omega) p2 hb
    refine ⟨σ',?_,r2⟩
    have hix:=hx k hkl
    have hld:=ldB hkl σ
    rw [←r1,f85_L0_eq Qb rfl]
    simp (disch:=omega) only [N,x6,Qp,ltT,gG,hix,hld,UT,hsn,UX hB,Qs,List.singleton_append,p1,add1]
theorem gr_L2 {i:Nat} (hi:i≤100000) {q:OE} (hl:(L q).length≤10000):∀ (d k:Nat) (A:List E) (σ:Qa),(L q).length-k=d→k≤(L q).length→GS σ0 ext (zer A) A o σ→(Zk A (((L q).drop k).map toE)).length≤100000→
    ∃ σ',f85_L2 Qb 0 (.ptr σ0.length 0) (.ptr (σ0.length+1) 0) (.ptr (σ0.length+3) 0) (.ptr (σ0.length+4) 0) (x6 σ0.length) (N i) (.p (eEs q)) (N (L q).length) (N k) σ=f85_L1 Qb 0 (.ptr σ0.length 0) (.ptr (σ0.length+1) 0) (.ptr (σ0.length+3) 0) (.ptr (σ0.length+4) 0) (x6 σ0.length) (N (i+1)) σ'∧
      GS σ0 ext (zer (Zk A (((L q).drop k).map toE))) (Zk A (((L q).drop k).map toE)) o σ'
  | 0,k,A,σ,hd,hk,h,hb=>by
    refine ⟨σ,?_,by rw [List.drop_of_length_le (by omega)]; exact h⟩
    rw [f85_L2_eq Qb rfl]
    simp (disch:=omega) only [N,Qp,ltF,gG,add1]
  | d+1,k,A,σ,hd,hk,h,hb=>by
    have hkl:k<(L q).length:=by omega
    have e0:(L q).drop k=gE (L q) k::(L q).drop (k+1):=by
      rw [Vh hkl]; exact List.drop_eq_getElem_cons hkl
    rw [e0] at hb ⊢
    have e1:Zk A ((gE (L q) k::(L q).drop (k+1)).map toE)=Zk (addA A (toE (gE (L q) k))) (((L q).drop (k+1)).map toE):=rfl
    rw [e1] at hb ⊢
    have h1:=h.snoc (.mix (edgD (gE (L q) k)))
    have hB:(σ++[Row.mix (edgD (gE (L q) k))])[σ.length]?=some (.mix (edgD (gE (L q) k))):=QE
    have hsn:=stN141 (lo:=0) (σ:=σ) (gE (L q) k) (Nat.zero_le _)
    have hAl:A.length≤100000:=Nat.le_trans (Nat.le_trans (addA_ge A _) (addAll_ge _ _)) hb
    obtain ⟨σ2,p1,p2⟩:=add_ok h1 hAl (toE (gE (L q) k))
    obtain ⟨σ',r1,r2⟩:=gr_L2 hi hl d (k+1) _ σ2 (by omega) (by omega) p2 hb
    refine ⟨σ',?_,r2⟩
    rw [←r1,f85_L2_eq Qb rfl]
    simp (disch:=omega) only [N,x6,Qp,ltT,gG,idx138,load141,ld141,zero141,hsn,fa141_0,Qe,Qf,Nat.zero_add,Nat.add_zero,Qc,List.append_nil,List.singleton_append,List.cons_append,List.nil_append,ldTo hB,Qs,List.singleton_append,p1,add1]
noncomputable def tail1 (C:Nat) (σ:Qa):Option (DV×Qa):=
  (load PP 134 (.ptr (C+4) 0) σ).bind fun x57=>
 (Qg CC 0 (DV.fn 111 []) [x57,(DV.fn 112 [])] σ).bind fun r58_6=>
 (load PP 134 (.ptr (C+4) 0) r58_6.2).bind fun x59=>
 (len PP 134 x59 r58_6.2).bind fun x60=>
 f85_L3 Qb 0 (.ptr C 0) (.ptr (C+1) 0) (.ptr (C+3) 0) (.ptr (C+4) 0) x59 x60 (DV.p (PV.int IntKind.i64 (0))) r58_6.2
def groM (M:E→OE):Nat→Nat→List E→List E
  | 0,_,A=>A
  | k+1,i,A=>if i<A.length then groM M k (i+1) (Zk A ((L (M (ge A i))).map toE)) else A
theorem gr_L1 {mv:FuncId} {caps:List DV} (hext:∃ y0,ext=[y0,.fn mv caps]) (M:E→OE) (Pn:E→Prop) (K:Nat)
    (hM:∀ x,Pn x→∀ σ:Qa,(∀ j,j<σ0.length→σ[j]?=σ0[j]?)→Qx CC mv (val x::caps) σ=some (.p (eEs (M x)))) (hl:∀ x,Pn x→(L (M x)).length≤10000) (hK:K≤100000)
    (I:List E→Prop) (hP:∀ A,I A→∀ x∈A,Pn x) (hN:∀ A,I A→A.length≤K) (hI:∀ A x,I A→x∈A→I (Zk A ((L (M x)).map toE))):∀ (d i:Nat) (A:List E) (σ:Qa),K-i=d→i≤A.length→GS σ0 ext (zer A) A o σ→I A→
    ∃ σ',GS σ0 ext (zer (groM M d i A)) (groM M d i A) o σ'∧I (groM M d i A)∧
      f85_L1 Qb 0 (.ptr σ0.length 0) (.ptr (σ0.length+1) 0) (.ptr (σ0.length+3) 0) (.ptr (σ0.length+4) 0) (x6 σ0.length) (N i) σ=tail1 σ0.length σ':=by
  intro d
  induction d with
  | zero=>
    intro i A σ hd hi h hA
    have hn:=hN A hA
    obtain ⟨y,g1,g2⟩:=h.al
    refine ⟨σ,h,hA,?_⟩
    have hl1:ZG (.ptr (σ0.length+4) 0) σ=some y:=Qd g1 rfl
    rw [f85_L1_eq Qb rfl]
    simp (disch:=omega) only [N,Ve,hl1,gG,lenR g2,Qp,ltF,tail1]
  | succ d ih=>
    intro i A σ hd hi h hA
    have hn:=hN A hA
    obtain ⟨y,g1,g2⟩:=h.al
    have hl1:ZG (.ptr (σ0.length+4) 0) σ=some y:=Qd g1 rfl
    unfold groM
    by_cases hlt:i<A.length
    · rw [if_pos hlt]
      have hx:ge A i∈A:=by rw [ZA hlt]; exact List.getElem_mem hlt
      have hPx:=hP A hA _ hx
      have hI2:=hI A _ hA hx
      obtain ⟨σ2,p1,p2⟩:=gr_L2 (i:=i) (by omega) (hl _ hPx) _ 0 A σ rfl (Nat.zero_le _) h (by rw [List.drop_zero]; exact Nat.le_trans (hN _ hI2) hK)
      rw [List.drop_zero] at p2
      obtain ⟨σ',r1,r2,r3⟩:=ih (i+1) _ σ2 (by omega) (by have:=addAll_ge A ((L (M (ge A i))).map toE); omega) p2 hI2
      refine ⟨σ',r1,r2,?_⟩
      rcases g2 with ⟨e1,_⟩ | ⟨r,rfl,w1,w2,w3⟩
      · rw [e1] at hlt; exact absurd hlt (by simp)
      · obtain ⟨y0,he⟩:=hext
        have hex:=h.ex
        rw [he] at hex
        have hr:=QW w1
        have hld:load PP 102 (.ptr r (i*2)) σ=some (val (ge A i)):=by
          have:=ldW (A:=A) hr hlt
          rwa [W_eq w1] at this
        have hlen:∀ σ':Qa,len PP 134 (.rsl r 2 0 A.length) σ'=some (.p (.int .i64 (A.length:Nat))):=fun σ'=>by simp [len,uL]
        have hmv:=hM _ hPx σ h.low
        rw [←r3,←p1,f85_L1_eq Qb rfl]
        simp (disch:=omega) only [N,Ve,hl1,gG,hlen,Qp,ltT,fa137_1,Qe,Qf,Nat.zero_add,Nat.add_zero,Qc,List.append_nil,List.singleton_append,List.cons_append,List.nil_append,load135,Qd (off:=1) hex rfl,idxL,hld,hmv,len138]
        rfl
    · rw [if_neg hlt]
      refine ⟨σ,h,hA,?_⟩
      rw [f85_L1_eq Qb rfl]
      simp (disch:=omega) only [N,Ve,hl1,gG,lenR g2,Qp,ltF,tail1]
theorem S111n (σ:Qa):CC 0 111 [.p .nilsl,.fn 112 []] σ=some (.tuple [],σ):=by
  obtain ⟨b,e1,h2,h3⟩:=Jd (n:=0) (by omega)
  have c0:CC 0 126 [.p .nilsl,.p (.int .i64 0),.p (.int .i64 ((0:Nat):Int)),.fn 112 []] σ=some (.tuple [],σ):=by
    refine F126_call ?_
    have a1:binOp PP .add 3 (.p (.int .i64 0)) (.p (.int .i64 1))=some (.p (.int .i64 ((1:Nat):Int))):=add1 (a:=0) (by omega)
    rw [F126_eq]
    simp only [a1,gG]
    rw [f126_L0_eq Qb rfl]
    simp (disch:=omega) only [Qp,ltF,gG]
  have c1:CC 0 121 [.p .nilsl,.p (.int .i64 0),.p (.int .i64 ((0:Nat):Int)),I b,.fn 112 []] σ=some (.tuple [],σ):=by
    refine F121_call ?_
    have a2:binOp PP .sub 3 (.p (.int .i64 ((0:Nat):Int))) (.p (.int .i64 0))=some (.p (.int .i64 ((0-0:Nat):Int))):=subN (a:=0) (b:=0) (Nat.le_refl 0) (by omega)
    rw [F121_eq,f121_L0_eq Qb rfl]
    simp (disch:=omega) only [a2,Za,leT,gG,Qs,List.append_nil,c0]
  have hl:len PP 134 (.p .nilsl) σ=some (.p (.int .i64 ((0:Nat):Int))):=by simp [len,uL]
  refine F111_call ?_
  simp only [I,U] at c1 e1
  rw [F111_eq]
  simp (disch:=omega) only [hl,gG,Jc,Qc,Qs,List.append_nil,e1,c1]
theorem gr_sort {l:List (E×Int)} {A:List E} {σ:Qa} (h:GS σ0 ext l A o σ) (hn:A.length≤100000) :
    ∃ B σ' y,B.Perm A∧B.Pairwise leB∧GS σ0 ext l B o σ'∧σ'[σ0.length+4]?=some (.mix [y])∧RowL σ' (σ0.length+5) B y∧
      tail1 σ0.length σ=f85_L3 Qb 0 (.ptr σ0.length 0) (.ptr (σ0.length+1) 0) (.ptr (σ0.length+3) 0) (.ptr (σ0.length+4) 0) y (N B.length) (N 0) σ':=by
  obtain ⟨y,g1,g2⟩:=h.al
  have hl1:ZG (.ptr (σ0.length+4) 0) σ=some y:=Qd g1 rfl
  have hlen:=fun σ':Qa=>lenR (σ':=σ') g2
  have g2':=g2
  rcases g2' with ⟨e1,rfl⟩ | ⟨r,rfl,w1,w2,w3⟩
  · subst e1
    refine ⟨[],σ,.p .nilsl,List.Perm.refl _,List.Pairwise.nil,h,g1,g2,?_⟩
    simp only [tail1,Ve,hl1,gG,Qs,List.append_nil,S111n,hlen]
    rfl
  · obtain ⟨B,e,s1,s2,s3⟩:=sort_ok (lo:=0) S112 ordB (Nat.zero_le _) hn w1
    have hBl:B.length=A.length:=s2.length_eq
    have hr:=QW w1
    have km:∀ j row,j≠r→σ[j]?=some row→(W (σ++e) r B)[j]?=some row:=fun j row hj hh=>Qv (by rw [List.getElem?_append_left (QW hh)]; exact hh) hj
    have gr:(W (σ++e) r B)[r]?=some (.mix (cels B)):=Jq (by rw [List.length_append]; omega) B
    obtain ⟨z,z1,z2⟩:=h.z2
    have hgs:GS σ0 ext l B o (W (σ++e) r B):=by
      refine ⟨fun j hj=>?_,km _ _ (by omega) h.ex,⟨z,km _ _ (by omega) z1,z2⟩,km _ _ (by omega) h.mp,km _ _ (by omega) h.ot,h.ol,_,km _ _ (by omega) g1,?_⟩
      · have hj2:=h.low j hj
        cases hx:σ0[j]? with
        | none=>have:=List.getElem?_eq_none_iff.1 hx; omega
        | some row=>
          rw [hx] at hj2
          exact km _ _ (by omega) hj2
      · exact .inr ⟨r,by rw [hBl],gr,w2,fun e=>w3 (by rw [e] at hBl; exact List.length_eq_zero_iff.1 hBl.symm)⟩
    have g4:=km _ _ (by omega) g1
    refine ⟨B,_,_,s2,sd_pair (by rw [hBl]; exact s3),hgs,g4,.inr ⟨r,by rw [hBl],gr,w2,fun e=>w3 (by rw [e] at hBl; exact List.length_eq_zero_iff.1 hBl.symm)⟩,?_⟩
    simp only [tail1,Ve,hl1,gG,Qs,List.append_nil,s1,Qd (off:=0) g4 rfl,hlen,hBl]
    rfl
end
end Go.D.StS
end
/- Chapter 22: graph, second part: the numbers of the states. -/
section
set_option linter.unusedVariables false
set_option linter.unusedSimpArgs false
namespace Go.D.StS
open Go.D.Srt
theorem find_set (l:List (E×Int)) (e e':E) (v:Int):WZ (setZ l e v) e'=if e=e' then some v else WZ l e':=by
  induction l with
  | nil=>rfl
  | cons p l ih=>
    rw [setZ,WZ]
    by_cases h1:p.1=e
    · rw [if_pos h1,WZ]
      by_cases h2:e=e'
      · simp only [h2,if_true]
      · have h3:¬ p.1=e':=fun h=>h2 (h1.symm.trans h)
        simp only [h2,h3,if_false]
    · rw [if_neg h1,WZ,ih]
      by_cases h2:p.1=e'
      · have h3:¬ e=e':=fun h=>h1 (h2.trans h.symm)
        simp only [h2,h3,if_true,if_false]
      · simp only [h2,if_false]
theorem Out.pushG {σ:Qa} {t e lo B sz b n:Nat} {z:List DV} {cs vs:List PV} {x:DV} (hs:ZI PP t=true) (hu:PP.underlying t=some (.slice e)) (h1:size? PP e=some sz) (h2:bytes? PP e=some b) (h3:Qz PP e=some z)
    (h4:z.length=sz) (hz:0<sz) (hb:0<b) (hb2:b≤1000) (hv:vs.length=sz) (ho:Out σ B sz n cs x) (hn:n≤10000000) (hB:B≤σ.length) (hlo:lo≤B) :
    ∃ x' σ',append PP lo false t t x (.p (.sl true 1 vs)) σ=some (x',σ')∧Out σ' B sz (n+1) (cs++vs) x'∧Others σ σ' x∧Fresh σ x x':=by
  have hsrc:Wb σ sz (.p (.sl true 1 vs))=some (1,vs.map DV.p):=by simp [Wb,hv]
  have hz0:¬ (z.length≠sz∨sz=0):=by omega
  obtain ⟨hc,ho⟩:=ho
  rcases ho with ⟨rfl,rfl⟩ | ⟨hn0,r,ver,rfl,hr,hl⟩
  · refine ⟨.osl σ.length 0 sz 1 vs,σ++[.tok 0],?_,⟨by simp [hc,hv],.inr ⟨by simp,σ.length,0,?_,QE,hB⟩⟩,?_,?_⟩
    · have:b≤140737488355328:=by omega
      simp only [append,hs,hu,h1,h2,h3,hz0,hsrc,Up]
      simp [this,hb,Wc,h4,hz,Nat.ne_of_gt hz]
    · have:cs=[]:=List.length_eq_zero_iff.1 (by simpa using hc)
      rw [this]; simp
    · intro i row hi _
      exact QV hi
    · intro r h; right; simpa [UR] using h.symm
  · refine ⟨.osl r (ver+1) sz (n+1) (cs++vs),σ.set r (.tok (ver+1)),?_,⟨by simp [hc,hv,Nat.add_mul],.inr ⟨by simp,r,ver+1,rfl,?_,hl⟩⟩,?_,?_⟩
    · have e1:(n+1)*b≤140737488355328:=Nat.le_trans (Nat.mul_le_mul (show n+1≤10000001 by omega) hb2) (by decide)
      have e2:n+1≤140737488355328:=by omega
      have e3:lo≤r:=by omega
      simp only [append,hs,hu,h1,h2,h3,hz0,hsrc,Ux]
      simp [e1,e2,hb,hc,e3,hr,Wc,h4,Nat.ne_of_gt hz]
    · rw [List.getElem?_set_self (QW hr)]
    · intro i row hi hne
      rw [List.getElem?_set_ne (fun e=>hne _ _ _ _ _ rfl e.symm)]
      exact hi
    · intro r' h; left; exact h
structure GY (σ0:Qa) (ext:List DV) (l:List (E×Int)) (A:List E) (o:List DV) (y:DV) (σ:Qa):Prop where
  g:GS σ0 ext l A o σ
  ay:σ[σ0.length+4]?=some (.mix [y])
  ry:RowL σ (σ0.length+5) A y
section
variable {σ0 : Qa} {ext o : List DV} {l : List (E × Int)} {A : List E} {y : DV} {σ : Qa}
theorem GY.snoc (h:GY σ0 ext l A o y σ) (row:Row):GY σ0 ext l A o y (σ++[row]):=⟨h.g.snoc row,QV h.ay,h.ry.snoc row⟩
theorem RowL.setNe {σ:Qa} {B q:Nat} {A:List E} {x:DV} {row:Row} (h:RowL σ B A x) (hq:q<B):RowL (σ.set q row) B A x:=by
  rcases h with h | ⟨r,e1,e2,e3,e4⟩
  · exact .inl h
  · exact .inr ⟨r,e1,Qv e2 (by omega),e3,e4⟩
theorem GY.setM (h:GY σ0 ext l A o y σ) (l':List (E×Int)):GY σ0 ext l' A o y (σ.set (σ0.length+2) (.map (entZ l'))):=
  ⟨h.g.setM l',Qv h.ay (by omega),h.ry.setNe (by omega)⟩
theorem GS.setO (h:GS σ0 ext l A o σ) {o':List DV} (ho:o'.length=5):GS σ0 ext l A o' (σ.set (σ0.length+3) (.mix (o'++[.map (σ0.length+2)]))):=by
  have hl:=h.len
  obtain ⟨z,z1,z2⟩:=h.z2
  obtain ⟨y,y1,y2⟩:=h.al
  refine ⟨fun j hj=>?_,Qv h.ex (by omega),⟨z,Qv z1 (by omega),z2⟩,Qv h.mp (by omega),by rw [List.getElem?_set_self (by omega)],ho,y,Qv y1 (by omega),y2.setNe (by omega)⟩
  rw [List.getElem?_set_ne (by omega)]
  exact h.low j hj
theorem GY.setO (h:GY σ0 ext l A o y σ) {o':List DV} (ho:o'.length=5):GY σ0 ext l A o' y (σ.set (σ0.length+3) (.mix (o'++[.map (σ0.length+2)]))):=
  ⟨h.g.setO ho,Qv h.ay (by omega),h.ry.setNe (by omega)⟩
theorem RowL.oth {σ σ':Qa} {B lo sz n:Nat} {cs:List PV} {A:List E} {x z:DV} (h:RowL σ B A x) (hz:Out σ lo sz n cs z) (ho:Others σ σ' z):RowL σ' B A x:=by
  rcases h with h | ⟨r,e1,e2,e3,e4⟩
  · exact .inl h
  · exact .inr ⟨r,e1,Others.mix ho hz e2 (fun v e=>by cases e),e3,e4⟩
theorem GY.oth {σ':Qa} {sz n:Nat} {cs:List PV} {z:DV} (h:GY σ0 ext l A o y σ) (hz:Out σ (σ0.length+5) sz n cs z) (ho:Others σ σ' z):GY σ0 ext l A o y σ':=by
  have hl:=h.g.len
  obtain ⟨c,z1,z2⟩:=h.g.z2
  obtain ⟨y',y1,y2⟩:=h.g.al
  have km:∀ (j:Nat) (cs:List DV),σ[j]?=some (Row.mix cs)→σ'[j]?=some (Row.mix cs):=fun j cs e=>Others.mix ho hz e (fun v e=>by cases e)
  refine ⟨⟨fun j hj=>?_,km _ _ h.g.ex,⟨c,km _ _ z1,z2⟩,Others.mix ho hz h.g.mp (fun v e=>by cases e),km _ _ h.g.ot,h.g.ol,y',km _ _ y1,y2.oth hz ho⟩,km _ _ h.ay,h.ry.oth hz ho⟩
  have hj2:=h.g.low j hj
  cases hx:σ0[j]? with
  | none=>have:=List.getElem?_eq_none_iff.1 hx; omega
  | some row=>
    rw [hx] at hj2
    refine ho j row hj2 ?_
    rintro r ver sz' n' cs' rfl rfl
    rcases hz.2 with ⟨_,e⟩ | ⟨_,r',ver',e,_,e3⟩
    · cases e
    · injection e with e; omega
theorem GY.at (h:GY σ0 ext l A o y σ) {k:Nat} (hk:k<A.length):∃ p,indexAddr PP 134 y (.p (.int .i64 (k:Nat)))=some p∧load PP 102 p σ=some (val (ge A k)):=by
  rcases h.ry with ⟨e,_⟩ | ⟨r,rfl,e2,_,_⟩
  · rw [e] at hk; exact absurd hk (by simp)
  · refine ⟨_,idxL hk,?_⟩
    have:=ldW (A:=A) (QW e2) hk
    rwa [W_eq e2] at this
theorem eqCs_ints (l:List Int):eqCs (Qu l) (Qu l)=true:=by
  induction l with
  | nil=>rfl
  | cons a l ih=>
    have e:Qu (a::l)=.int .i64 a::Qu l:=rfl
    simp [e,eqCs,ih]
theorem sameV_out {σ:Qa} {lo n:Nat} {l:List Int} {x:DV} (h:Out σ lo 1 n (Qu l) x):Jh (some x) (some x)=true:=by
  rcases h.2 with ⟨_,rfl⟩ | ⟨_,r,ver,rfl,_,_⟩
  · rfl
  · simp [Jh,eqCs_ints]
theorem sameInt_i (v:Int):sameInt (some (.p (.int .i64 v))) (some (.p (.int .i64 v)))=true:=by simp [sameInt]
theorem s22':size? PP 22=some 1:=Eq.trans (by kernel_rfl) rfl
theorem s23':size? PP 23=some 1:=Eq.trans (by kernel_rfl) rfl
theorem st22_3 {σ:Qa} {t:Nat} {c0 c1 c2 c3 c4 c5 v:DV} (h:σ[t]?=some (.mix [c0,c1,c2,c3,c4,c5])) (hv:v.one=true) (hc:v.cells=[v]):store PP 0 22 (.ptr t 3) v σ=some (σ.set t (.mix [c0,c1,c2,v,c4,c5])):=by
  have e3:QS [c0,c1,c2,c3,c4,c5] 3 [v]=[c0,c1,c2,v,c4,c5]:=rfl
  simp [store,s22',hc,Zs,h,hv,e3]
theorem st22_4 {σ:Qa} {t:Nat} {c0 c1 c2 c3 c4 c5 v:DV} (h:σ[t]?=some (.mix [c0,c1,c2,c3,c4,c5])) (hv:v.one=true) (hc:v.cells=[v]):store PP 0 22 (.ptr t 4) v σ=some (σ.set t (.mix [c0,c1,c2,c3,v,c5])):=by
  have e3:QS [c0,c1,c2,c3,c4,c5] 4 [v]=[c0,c1,c2,c3,v,c5]:=rfl
  simp [store,s22',hc,Zs,h,hv,e3]
theorem st22_1 {σ:Qa} {t:Nat} {c0 c1 c2 c3 c4 c5 v:DV} (h:σ[t]?=some (.mix [c0,c1,c2,c3,c4,c5])) (hv:v.one=true) (hc:v.cells=[v]):store PP 0 22 (.ptr t 1) v σ=some (σ.set t (.mix [c0,v,c2,c3,c4,c5])):=by
  have e3:QS [c0,c1,c2,c3,c4,c5] 1 [v]=[c0,v,c2,c3,c4,c5]:=rfl
  simp [store,s22',hc,Zs,h,hv,e3]
theorem st23_2 {σ:Qa} {t:Nat} {c0 c1 c2 c3 c4 c5 v:DV} (h:σ[t]?=some (.mix [c0,c1,c2,c3,c4,c5])) (hv:v.one=true) (hc:v.cells=[v]):store PP 0 23 (.ptr t 2) v σ=some (σ.set t (.mix [c0,c1,v,c3,c4,c5])):=by
  have e3:QS [c0,c1,c2,c3,c4,c5] 2 [v]=[c0,c1,v,c3,c4,c5]:=rfl
  simp [store,s23',hc,Zs,h,hv,e3]
theorem st3_0 {σ:Qa} {t:Nat} {c0 c1 c2 c3 c4 c5:DV} {v:Int} (h:σ[t]?=some (.mix [c0,c1,c2,c3,c4,c5])):store PP 0 3 (.ptr t 0) (.p (.int .i64 v)) σ=some (σ.set t (.mix [.p (.int .i64 v),c1,c2,c3,c4,c5])):=by
  have e3:QS [c0,c1,c2,c3,c4,c5] 0 [.p (.int .i64 v)]=[.p (.int .i64 v),c1,c2,c3,c4,c5]:=rfl
  have e4:(DV.p (.int .i64 v)).one=true:=rfl
  have e5:(DV.p (.int .i64 v)).cells=[.p (.int .i64 v)]:=rfl
  simp [store,s3,e5,Zs,h,e4,e3]
theorem Out.setM {σ:Qa} {lo sz n:Nat} {cs:List PV} {x:DV} (ho:Out σ lo sz n cs x) {q:Nat} {c:List DV} (hq:σ[q]?=some (.mix c)) (row:Row):Out (σ.set q row) lo sz n cs x:=by
  refine ⟨ho.1,?_⟩
  rcases ho.2 with h | ⟨h0,r,ver,e1,e2,e3⟩
  · exact .inl h
  · refine .inr ⟨h0,r,ver,e1,Qv e2 ?_,e3⟩
    rintro rfl
    rw [hq] at e2; exact absurd e2 (by simp)
theorem Out.setLow {σ:Qa} {lo sz n:Nat} {cs:List PV} {x:DV} (ho:Out σ lo sz n cs x) {q:Nat} (hq:q<lo) (row:Row):Out (σ.set q row) lo sz n cs x:=by
  refine ⟨ho.1,?_⟩
  rcases ho.2 with h | ⟨h0,r,ver,e1,e2,e3⟩
  · exact .inl h
  · exact .inr ⟨h0,r,ver,e1,Qv e2 (by omega),e3⟩
theorem Out.snocM {σ:Qa} {lo sz n:Nat} {cs:List PV} {x:DV} (ho:Out σ lo sz n cs x) (row:Row):Out (σ++[row]) lo sz n cs x:=by
  refine ⟨ho.1,?_⟩
  rcases ho.2 with h | ⟨h0,r,ver,e1,e2,e3⟩
  · exact .inl h
  · exact .inr ⟨h0,r,ver,e1,QV e2,e3⟩
theorem QQ {σ:Qa} {lo sz n:Nat} {cs:List PV} {x:DV} (ho:Out σ lo sz n cs x):x.one=true∧x.cells=[x]:=by
  rcases ho.2 with ⟨_,rfl⟩ | ⟨_,q,ver,rfl,_⟩ <;> exact ⟨rfl,rfl⟩
end
section
variable {σ0 : Qa} {B : List E} {y y0 f : DV} {n0 i0 e0 : DV}
theorem gr_L3 (hB:B.Nodup) (hn:B.length≤1000):∀ (d k:Nat) (l:List (E×Int)) (bx ax:DV) (σ:Qa),B.length-k=d→k≤B.length→GY σ0 [y0,f] l B [n0,i0,e0,bx,ax] y σ→
    Out σ (σ0.length+5) 1 k (Qu ((B.take k).map Prod.fst)) bx→Out σ (σ0.length+5) 1 k (Qu ((B.take k).map Prod.snd)) ax→Apart bx ax→(∀ j,j<k→WZ l (ge B j)=some (j:Int))→
    ∃ l' bx' ax' σ',f85_L3 Qb 0 (.ptr σ0.length 0) (.ptr (σ0.length+1) 0) (.ptr (σ0.length+3) 0) (.ptr (σ0.length+4) 0) y (N B.length) (N k) σ =
      ((len PP 134 y0 σ').bind fun x96=>f85_L4 Qb 0 (.ptr σ0.length 0) (.ptr (σ0.length+1) 0) (.ptr (σ0.length+3) 0) (.ptr (σ0.length+4) 0) y0 x96 (N 0) σ')∧
      GY σ0 [y0,f] l' B [.p (pI B.length),i0,e0,bx',ax'] y σ'∧Out σ' (σ0.length+5) 1 B.length (Qu (B.map Prod.fst)) bx'∧Out σ' (σ0.length+5) 1 B.length (Qu (B.map Prod.snd)) ax'∧Apart bx' ax'∧(∀ j,j<B.length→WZ l' (ge B j)=some (j:Int))
  | 0,k,l,bx,ax,σ,hd,hk,h,hb,ha,hap,hf=>by
    have e:k=B.length:=by omega
    subst e
    have hot:=h.g.ot
    have h2:=h.setO (o':=[.p (pI B.length),i0,e0,bx,ax]) rfl
    have hl:=h.g.len
    refine ⟨l,bx,ax,_,?_,h2,by have:=Out.setLow hb (q:=σ0.length+3) (by omega) (.mix ([.p (pI B.length),i0,e0,bx,ax]++[.map (σ0.length+2)])); rwa [List.take_length] at this,
      by have:=Out.setLow ha (q:=σ0.length+3) (by omega) (.mix ([.p (pI B.length),i0,e0,bx,ax]++[.map (σ0.length+2)])); rwa [List.take_length] at this,hap,hf⟩
    have hex:=h2.g.ex
    have hst:=st3_0 (v:=((B.length:Nat):Int)) hot
    rw [f85_L3_eq Qb rfl]
    simp (disch:=omega) only [N,Qp,ltF,gG,Ve,Qd (off:=0) h.ay rfl,lenR h.ry,UN,Wj,ZP,fa137_0,Qe,Qf,Nat.zero_add,Nat.add_zero,Qc,List.append_nil,List.singleton_append,List.cons_append,List.nil_append,hst]
    simp only [Qe,Qf,Nat.zero_add,Nat.add_zero,Qc,List.append_nil,List.singleton_append,List.cons_append,List.nil_append] at hex
    simp only [Qd (off:=0) hex rfl,gG,Qe,Qf,Nat.zero_add,Nat.add_zero,Qc,List.append_nil,List.singleton_append,List.cons_append,List.nil_append]
    rfl
  | d+1,k,l,bx,ax,σ,hd,hk,h,hb,ha,hap,hf=>by
    have hkl:k<B.length:=by omega
    obtain ⟨p,hp1,hp2⟩:=h.at hkl
    have hl:=h.g.len
    have hsn:=stNew (lo:=0) (σ:=σ) (ge B k) (Nat.zero_le _)
    have h1:=(h.snoc (.mix (cel (ge B k)))).setM (setZ l (ge B k) (k:Int))
    have hup:=updZ (h.snoc (.mix (cel (ge B k)))).g.mp (ge B k) (k:Int)
    have hom:=(h.snoc (.mix (cel (ge B k)))).g.omap
    have hB7:(σ++[Row.mix (cel (ge B k))])[σ.length]?=some (.mix (cel (ge B k))):=QE
    have hB8:=Qv (r:=.map (entZ (setZ l (ge B k) (k:Int)))) hB7 (show σ.length≠σ0.length+2 by omega)
    have hb8:=Out.setLow (Out.snocM hb (.mix (cel (ge B k)))) (q:=σ0.length+2) (by omega) (.map (entZ (setZ l (ge B k) (k:Int))))
    have ha8:=Out.setLow (Out.snocM ha (.mix (cel (ge B k)))) (q:=σ0.length+2) (by omega) (.map (entZ (setZ l (ge B k) (k:Int))))
    generalize hσ8:(σ++[Row.mix (cel (ge B k))]).set (σ0.length+2) (.map (entZ (setZ l (ge B k) (k:Int))))=σ8 at *
    have hl8:=h1.g.len
    obtain ⟨bx2,σ9,p1,p2,p3,p4⟩:=Out.pushG (lo:=0) (vs:=[pI (ge B k).1]) Uy u22 s3 VH Ur rfl (by decide) (by decide) (by decide) rfl hb8 (by omega) hl8 (Nat.zero_le _)
    have h9:=h1.oth hb8 p3
    have ha9:=Out.other ha8 p3 hap
    have hap9:Apart bx2 ax:=Apart.fresh hap p4 ha8
    have hB9:σ9[σ.length]?=some (.mix (cel (ge B k))):=Others.mix p3 hb8 hB8 (fun v e=>by cases e)
    have hl9:=h9.g.len
    obtain ⟨ax2,σ10,q1,q2,q3,q4⟩:=Out.pushG (lo:=0) (vs:=[pI (ge B k).2]) Uy u22 s3 VH Ur rfl (by decide) (by decide) (by decide) rfl ha9 (by omega) hl9 (Nat.zero_le _)
    have h10:=h9.oth ha9 q3
    have hb10:=Out.other p2 q3 hap9.symm
    have hap10:Apart bx2 ax2:=(Apart.fresh hap9.symm q4 p2).symm
    have hB10:σ10[σ.length]?=some (.mix (cel (ge B k))):=Others.mix q3 ha9 hB9 (fun v e=>by cases e)
    have o8:=h1.g.ot
    have o9:=h9.g.ot
    have o10:=h10.g.ot
    have hs1:=st22_3 o10 (QQ p2).1 (QQ p2).2
    have h13:=h10.setO (o':=[n0,i0,e0,bx2,ax]) rfl
    have hb13:=Out.setLow hb10 (q:=σ0.length+3) (by omega) (.mix ([n0,i0,e0,bx2,ax]++[.map (σ0.length+2)]))
    have ha13:=Out.setLow q2 (q:=σ0.length+3) (by omega) (.mix ([n0,i0,e0,bx2,ax]++[.map (σ0.length+2)]))
    have hB13:=Qv (r:=.mix ([n0,i0,e0,bx2,ax]++[.map (σ0.length+2)])) hB10 (show σ.length≠σ0.length+3 by omega)
    simp only [Qe,Qf,Nat.zero_add,Nat.add_zero,Qc,List.append_nil,List.singleton_append,List.cons_append,List.nil_append] at h13 hb13 ha13 hB13 hs1
    generalize hσ13:σ10.set (σ0.length+3) (.mix [n0,i0,e0,bx2,ax,.map (σ0.length+2)])=σ13 at *
    have o13:=h13.g.ot
    have hs2:=st22_4 o13 (QQ q2).1 (QQ q2).2
    have h14:=h13.setO (o':=[n0,i0,e0,bx2,ax2]) rfl
    have hb14:=Out.setLow hb13 (q:=σ0.length+3) (by omega) (.mix ([n0,i0,e0,bx2,ax2]++[.map (σ0.length+2)]))
    have ha14:=Out.setLow ha13 (q:=σ0.length+3) (by omega) (.mix ([n0,i0,e0,bx2,ax2]++[.map (σ0.length+2)]))
    have hB14:=Qv (r:=.mix ([n0,i0,e0,bx2,ax2]++[.map (σ0.length+2)])) hB13 (show σ.length≠σ0.length+3 by omega)
    simp only [Qe,Qf,Nat.zero_add,Nat.add_zero,Qc,List.append_nil,List.singleton_append,List.cons_append,List.nil_append] at h14 hb14 ha14 hB14 hs2
    generalize hσ14:σ13.set (σ0.length+3) (.mix [n0,i0,e0,bx2,ax2,.map (σ0.length+2)])=σ14 at *
    have e1:Qu ((B.take k).map Prod.fst)++[pI (ge B k).1]=Qu ((B.take (k+1)).map Prod.fst):=by
      rw [List.take_succ_eq_append_getElem hkl,ZA hkl]; unfold Qu; rw [List.map_append,List.map_append]; rfl
    have e2:Qu ((B.take k).map Prod.snd)++[pI (ge B k).2]=Qu ((B.take (k+1)).map Prod.snd):=by
      rw [List.take_succ_eq_append_getElem hkl,ZA hkl]; unfold Qu; rw [List.map_append,List.map_append]; rfl
    rw [e1] at hb14
    rw [e2] at ha14
    obtain ⟨l',bx',ax',σ',r1,r2⟩:=gr_L3 hB hn d (k+1) (setZ l (ge B k) (k:Int)) bx2 ax2 σ14 (by omega) (by omega) h14 hb14 ha14 hap10 (fun j hj=>by
      rw [find_set]
      by_cases e:ge B k=ge B j
      · rw [ZA hkl,ZA (show j<B.length by omega)] at e
        have:=(List.getElem_inj hB).1 e
        rw [if_pos (by rw [ZA hkl,ZA (show j<B.length by omega)]; exact e),this]
      · rw [if_neg e]
        refine hf j ?_
        by_cases e3:j=k
        · subst e3; exact absurd rfl e
        · omega)
    refine ⟨l',bx',ax',σ',?_,r2⟩
    simp only [Qe,Qf,Nat.zero_add,Nat.add_zero,Qc,List.append_nil,List.singleton_append,List.cons_append,List.nil_append] at o8 o9
    have i8:=Qd (off:=1) hB8 (v:=.p (.int .i64 (ge B k).2)) rfl
    have i9:=Qd (off:=1) hB9 (v:=.p (.int .i64 (ge B k).2)) rfl
    have i10:=Qd (off:=1) hB10 (v:=.p (.int .i64 (ge B k).2)) rfl
    have i13:=Qd (off:=1) hB13 (v:=.p (.int .i64 (ge B k).2)) rfl
    have i14:=Qd (off:=1) hB14 (v:=.p (.int .i64 (ge B k).2)) rfl
    have v8:=Qd (off:=4) o8 (v:=ax) rfl
    have v9:=Qd (off:=4) o9 (v:=ax) rfl
    have w8:=Qd (off:=3) o8 (v:=bx) rfl
    have hsv:=sameV_out ha8
    rw [←r1,f85_L3_eq Qb rfl]
    simp (disch:=omega) only [N,Qp,ltT,gG,hp1,hp2,UT,hsn,UN,UM,Wj,We,WW,fa102_0,fa102_1,Qe,Qf,Nat.zero_add,Nat.add_zero,Qc,List.append_nil,List.singleton_append,List.cons_append,List.nil_append,UF,hom,UX hB7,hup,QH,QJ,w8,Qd (off:=0) hB8 (v:=.p (.int .i64 (ge B k).1)) rfl,VI,p1,v9,i9,q1,hs1,hs2,
      i8,i10,i13,i14,v8,hsv,sameInt_i,List.all_cons,List.all_nil,Bool.and_true,cond_true,add1]
end
end Go.D.StS
end
/- Equations of functions 113, 123, 136, 139, 141, 142, 153, 163, 152, 114, printed by gen.py. -/
section
set_option linter.unusedVariables false
set_option maxRecDepth 10000
namespace Go.D
open Go.Proofs
noncomputable section
variable (G:Qh) (lo:Nat) {σ:Qa} {r:DV×Qa}
open _root_.Go.D.Code (fstC sndC)
open _root_.Go.D.Ann (left right)
def c113_0:Code:=Qw Tryz.f113
def a113_0:Ann:=(pol 113).ann
def F113 (a:DV) (σ:Qa):RS:=
 Qo G PP (pol 113) CC lo c113_0 a113_0 (a::zn 10 []) σ (finR PP Tryz.f113.results.toList)
theorem F113_eq (G:Qh) (lo:Nat) (a:DV) (σ:Qa):F113 G lo a σ =
 (len PP 22 a σ).bind fun f=>
 (convert PP 3 165 f).bind fun l=>
 (Qi CC (DV.fn 122 []) [l] σ).bind fun i=>
 (Qg CC lo (DV.fn 123 []) [a,I0,f,i] σ).bind fun r10_1=>
 some ((DV.tuple []),r10_1.2):=by kernel_rfl
theorem F113_call {lo:Nat} {a:DV} (h:F113 Qb lo a σ=some r):CC lo 113 [a] σ=some r:=
 callL_run Tryz.func113 (by decide +kernel) rfl (by decide +kernel) h
def c123_0:Code:=Qw Tryz.f123
def a123_0:Ann:=(pol 123).ann
def a123_4:Ann:=right (right a123_0)
def a123_5:Ann:=left a123_4
def c123_6:Code:=fstC (fstC (sndC (sndC c123_0)))
def a123_6:Ann:=left a123_5
def c123_33:Code:=sndC (sndC (sndC (sndC (fstC c123_6))))
def a123_33:Ann:=right (right (right (right (left a123_6))))
def c123_45:Code:=sndC (sndC c123_33)
def a123_45:Ann:=right (right a123_33)
def c123_55:Code:=sndC c123_45
def a123_55:Ann:=right a123_45
def f123_L0 (a b c d l i:DV) (σ:Qa):RS:=
 Qo G PP (pol 123) CC lo (.loop c123_6) a123_5 (a::b::c::d::Z::Z::Z::Z::l::i::zn 124 []) σ
 (Qk 0 a123_4 (finR PP Tryz.f123.results.toList))
def f123_J0 (a b c d l i g av L t o u au af X aq aj ar aa J C x:DV) (σ:Qa):RS:=
 (seqC G PP (pol 123) CC lo c123_33 a123_33 (Qk 1 a123_6 (QY G PP (pol 123) CC lo c123_6 a123_5 (Qk 0 a123_4 (finR PP Tryz.f123.results.toList))))) .normal (a::b::c::d::Z::Z::Z::Z::l::i::g::zn 8 (av::L::t::o::u::Z::Z::Z::Z::au::af::Z::Z::Z::Z::X::aq::aj::ar::aa::J::C::x::zn 92 [])) σ
def f123_J1 (a b c d l i g j k av L t o u au af X aq aj ar aa J C x B V ac P y Q M ba aw bb Y S T am be bp ao bc az:DV) (σ:Qa):RS:=
 (seqC G PP (pol 123) CC lo c123_45 a123_45 (Qk 1 a123_6 (QY G PP (pol 123) CC lo c123_6 a123_5 (Qk 0 a123_4 (finR PP Tryz.f123.results.toList))))) .normal (a::b::c::d::Z::Z::Z::Z::l::i::g::j::k::zn 6 (av::L::t::o::u::Z::Z::Z::Z::au::af::Z::Z::Z::Z::X::aq::aj::ar::aa::J::C::x::B::V::ac::P::y::Q::M::ba::aw::bb::Y::S::T::am::be::bp::ao::bc::az::zn 73 [])) σ
def f123_J2 (a b c d l i g j k av L t o u au af X aq aj ar aa J C x B V ac P y Q M ba aw bb Y S T am be bp ao bc az bk bv bj bi br bf b8 cb dd bt b9 cv:DV) (σ:Qa):RS:=
 (seqC G PP (pol 123) CC lo c123_55 a123_55 (Qk 1 a123_6 (QY G PP (pol 123) CC lo c123_6 a123_5 (Qk 0 a123_4 (finR PP Tryz.f123.results.toList))))) .normal (a::b::c::d::Z::Z::Z::Z::l::i::g::j::k::zn 6 (av::L::t::o::u::Z::Z::Z::Z::au::af::Z::Z::Z::Z::X::aq::aj::ar::aa::J::C::x::B::V::ac::P::y::Q::M::ba::aw::bb::Y::S::T::am::be::bp::ao::bc::az::bk::bv::bj::bi::br::bf::b8::cb::dd::bt::b9::cv::zn 61 [])) σ
def F123 (a b c d:DV) (σ:Qa):RS:=
 Qo G PP (pol 123) CC lo c123_0 a123_0 (a::b::c::d::zn 130 []) σ (finR PP Tryz.f123.results.toList)
theorem f123_J0_eq (G:Qh) (lo:Nat) (a b c d l i g av L t o u au af X aq aj ar aa J C x:DV) (σ:Qa):f123_J0 G lo a b c d l i g av L t o u au af X aq aj ar aa J C x σ =
 (Qg CC lo (DV.fn 139 []) [a,b,c] σ).bind fun r46_4=>
 (Ql r46_4.1 0).bind fun Q=>
 (Ql r46_4.1 1).bind fun M=>
 (binOp PP .eql 169 M (DV.p (PV.int IntKind.i64 (2)))).bind fun aw=>
 Qj aw
 (
 (Qg CC lo (DV.fn 140 []) [a,b,c] r46_4.2).bind fun r54_5=>
 (binOp PP .sub 3 c I1).bind fun be=>
 (binOp PP .sub 3 Q b).bind fun bc=>
 (binOp PP .sub 3 be bc).bind fun az=>
 f123_J1 G lo a b c d l i g az I1 av L t o u au af X aq aj ar aa J C x r46_4.1 a b c r46_4.1 Q M M aw a b c r54_5.1 c be Q b bc az r54_5.2
 )
 (
 f123_J1 G lo a b c d l i g Q M av L t o u au af X aq aj ar aa J C x r46_4.1 a b c r46_4.1 Q M M aw Z Z Z Z Z Z Z Z Z Z r46_4.2
 ):=by kernel_rfl
theorem f123_J1_eq (G:Qh) (lo:Nat) (a b c d l i g j k av L t o u au af X aq aj ar aa J C x B V ac P y Q M ba aw bb Y S T am be bp ao bc az:DV) (σ:Qa):f123_J1 G lo a b c d l i g j k av L t o u au af X aq aj ar aa J C x B V ac P y Q M ba aw bb Y S T am be bp ao bc az σ =
 G _ l true (some (i,σ)) σ fun bj σ6=>
 (Qt l bj (DV.p (PV.bool false))).bind fun bi=>
 G _ bi true (some (k,σ6)) σ6 fun bf σ7=>
 Gp G bi true (binOp PP .eql 169 bf I1) σ7 fun b8 σ8=>
 (Qt bi b8 (DV.p (PV.bool false))).bind fun cb=>
 Qj cb
 (
 (Qg CC lo (DV.fn 141 []) [a,b,c] σ8).bind fun r72_9=>
 Qj r72_9.1
 (
 some ((DV.tuple []),r72_9.2)
 )
 (
 f123_J2 G lo a b c d l i g j k av L t o u au af X aq aj ar aa J C x B V ac P y Q M ba aw bb Y S T am be bp ao bc az l l bj bi bi bf b8 cb a b c r72_9.1 r72_9.2
 )
 )
 (
 f123_J2 G lo a b c d l i g j k av L t o u au af X aq aj ar aa J C x B V ac P y Q M ba aw bb Y S T am be bp ao bc az l l bj bi bi bf b8 cb Z Z Z Z σ8
 ):=by kernel_rfl
theorem f123_J2_eq (G:Qh) (lo:Nat) (a b c d l i g j k av L t o u au af X aq aj ar aa J C x B V ac P y Q M ba aw bb Y S T am be bp ao bc az bk bv bj bi br bf b8 cb dd bt b9 cv:DV) (σ:Qa):f123_J2 G lo a b c d l i g j k av L t o u au af X aq aj ar aa J C x B V ac P y Q M ba aw bb Y S T am be bp ao bc az bk bv bj bi br bf b8 cb dd bt b9 cv σ =
 (binOp PP .gtr 3 b I0).bind fun N=>
 G _ N true (some (a,σ)) σ fun cd σ10=>
 G _ N true (some (b,σ10)) σ10 fun bm σ11=>
 Gp G N true (binOp PP .sub 3 bm I1) σ11 fun c8 σ12=>
 Gp G N true (indexAddr PP 22 cd c8) σ12 fun bz σ13=>
 Gp G N true (load PP 3 bz σ13) σ13 fun ca σ14=>
 G _ N true (some (a,σ14)) σ14 fun cq σ15=>
 G _ N true (some (j,σ15)) σ15 fun n σ16=>
 Gp G N true (indexAddr PP 22 cq n) σ16 fun cz σ17=>
 Gp G N true (load PP 3 cz σ17) σ17 fun bg σ18=>
 Gp G N true (Qi CC (DV.fn 142 []) [ca,bg] σ18) σ18 fun bq σ19=>
 Gp G N true (unOp .not bq) σ19 fun bl σ20=>
 (Qt N bl (DV.p (PV.bool false))).bind fun bn=>
 Qj bn
 (
 (Qg CC lo (DV.fn 143 []) [a,b,c,j] σ20).bind fun r92_21=>
 f123_L0 G lo a r92_21.1 c d l i r92_21.2
 )
 (
 (Qg CC lo (DV.fn 144 []) [a,b,c,j] σ20).bind fun r99_22=>
 (Ql r99_22.1 0).bind fun bh=>
 (Ql r99_22.1 1).bind fun df=>
 (binOp PP .sub 3 bh b).bind fun dp=>
 (binOp PP .sub 3 c bh).bind fun dh=>
 (binOp PP .quo 3 g (DV.p (PV.int IntKind.i64 (8)))).bind fun dg=>
 (binOp PP .lss 3 dp dh).bind fun bw=>
 Qj bw
 (
 (binOp PP .geq 3 dp dg).bind fun cp=>
 (Qg CC lo (DV.fn 123 []) [a,b,bh,d] r99_22.2).bind fun r121_23=>
 (binOp PP .add 3 bh I1).bind fun dl=>
 f123_L0 G lo a dl c d cp df r121_23.2
 )
 (
 (binOp PP .geq 3 dh dg).bind fun du=>
 (binOp PP .add 3 bh I1).bind fun dc=>
 (Qg CC lo (DV.fn 123 []) [a,dc,c,d] r99_22.2).bind fun r132_24=>
 f123_L0 G lo a b bh d du df r132_24.2
 )
 ):=by kernel_rfl
theorem f123_L0_eqN (G:Qh) (hG:Qq G) (lo:Nat) (a b c d l i:DV) (σ:Qa):f123_L0 G lo a b c d l i σ =
 (binOp PP .sub 3 c b).bind fun t=>
 (binOp PP .leq 3 t (DV.p (PV.int IntKind.i64 (12)))).bind fun u=>
 Qj u
 (
 (Qg CC lo (DV.fn 136 []) [a,b,c] σ).bind fun r27_1=>
 some ((DV.tuple []),r27_1.2)
 )
 (
 (binOp PP .eql 3 d I0).bind fun af=>
 Qj af
 (
 (Qg CC lo (DV.fn 137 []) [a,b,c] σ).bind fun r33_2=>
 some ((DV.tuple []),r33_2.2)
 )
 (
 (unOp .not l).bind fun aq=>
 Qj aq
 (
 (Qg CC lo (DV.fn 138 []) [a,b,c] σ).bind fun r39_3=>
 (binOp PP .sub 3 d I1).bind fun x=>
 (Qg CC lo (DV.fn 139 []) [a,b,c] r39_3.2).bind fun r46_4=>
 (Ql r46_4.1 0).bind fun Q=>
 (Ql r46_4.1 1).bind fun M=>
 (binOp PP .eql 169 M (DV.p (PV.int IntKind.i64 (2)))).bind fun aw=>
 Qj aw
 (
 (Qg CC lo (DV.fn 140 []) [a,b,c] r46_4.2).bind fun r54_5=>
 (binOp PP .sub 3 c I1).bind fun be=>
 (binOp PP .sub 3 Q b).bind fun bc=>
 (binOp PP .sub 3 be bc).bind fun az=>
 G _ l true (some (i,r54_5.2)) r54_5.2 fun bj σ6=>
 (Qt l bj (DV.p (PV.bool false))).bind fun bi=>
 G _ bi true (some (I1,σ6)) σ6 fun bf σ7=>
 Gp G bi true (binOp PP .eql 169 bf I1) σ7 fun b8 σ8=>
 (Qt bi b8 (DV.p (PV.bool false))).bind fun cb=>
 Qj cb
 (
 (Qg CC lo (DV.fn 141 []) [a,b,c] σ8).bind fun r72_9=>
 Qj r72_9.1
 (
 some ((DV.tuple []),r72_9.2)
 )
 (
 (binOp PP .gtr 3 b I0).bind fun N=>
 G _ N true (some (a,r72_9.2)) r72_9.2 fun cd σ10=>
 G _ N true (some (b,σ10)) σ10 fun bm σ11=>
 Gp G N true (binOp PP .sub 3 bm I1) σ11 fun c8 σ12=>
 Gp G N true (indexAddr PP 22 cd c8) σ12 fun bz σ13=>
 Gp G N true (load PP 3 bz σ13) σ13 fun ca σ14=>
 G _ N true (some (a,σ14)) σ14 fun cq σ15=>
 G _ N true (some (az,σ15)) σ15 fun n σ16=>
 Gp G N true (indexAddr PP 22 cq n) σ16 fun cz σ17=>
 Gp G N true (load PP 3 cz σ17) σ17 fun bg σ18=>
 Gp G N true (Qi CC (DV.fn 142 []) [ca,bg] σ18) σ18 fun bq σ19=>
 Gp G N true (unOp .not bq) σ19 fun bl σ20=>
 (Qt N bl (DV.p (PV.bool false))).bind fun bn=>
 Qj bn
 (
 (Qg CC lo (DV.fn 143 []) [a,b,c,az] σ20).bind fun r92_21=>
 f123_L0 G lo a r92_21.1 c x l i r92_21.2
 )
 (
 (Qg CC lo (DV.fn 144 []) [a,b,c,az] σ20).bind fun r99_22=>
 (Ql r99_22.1 0).bind fun bh=>
 (Ql r99_22.1 1).bind fun df=>
 (binOp PP .sub 3 bh b).bind fun dp=>
 (binOp PP .sub 3 c bh).bind fun dh=>
 (binOp PP .quo 3 t (DV.p (PV.int IntKind.i64 (8)))).bind fun dg=>
 (binOp PP .lss 3 dp dh).bind fun bw=>
 Qj bw
 (
 (binOp PP .geq 3 dp dg).bind fun cp=>
 (Qg CC lo (DV.fn 123 []) [a,b,bh,x] r99_22.2).bind fun r121_23=>
 (binOp PP .add 3 bh I1).bind fun dl=>
 f123_L0 G lo a dl c x cp df r121_23.2
 )
 (
 (binOp PP .geq 3 dh dg).bind fun du=>
 (binOp PP .add 3 bh I1).bind fun dc=>
 (Qg CC lo (DV.fn 123 []) [a,dc,c,x] r99_22.2).bind fun r132_24=>
 f123_L0 G lo a b bh x du df r132_24.2
 )
 )
 )
 )
 (
 (binOp PP .gtr 3 b I0).bind fun N=>
 G _ N true (some (a,σ8)) σ8 fun cd σ25=>
 G _ N true (some (b,σ25)) σ25 fun bm σ26=>
 Gp G N true (binOp PP .sub 3 bm I1) σ26 fun c8 σ27=>
 Gp G N true (indexAddr PP 22 cd c8) σ27 fun bz σ28=>
 Gp G N true (load PP 3 bz σ28) σ28 fun ca σ29=>
 G _ N true (some (a,σ29)) σ29 fun cq σ30=>
 G _ N true (some (az,σ30)) σ30 fun n σ31=>
 Gp G N true (indexAddr PP 22 cq n) σ31 fun cz σ32=>
 Gp G N true (load PP 3 cz σ32) σ32 fun bg σ33=>
 Gp G N true (Qi CC (DV.fn 142 []) [ca,bg] σ33) σ33 fun bq σ34=>
 Gp G N true (unOp .not bq) σ34 fun bl σ35=>
 (Qt N bl (DV.p (PV.bool false))).bind fun bn=>
 Qj bn
 (
 (Qg CC lo (DV.fn 143 []) [a,b,c,az] σ35).bind fun r92_36=>
 f123_L0 G lo a r92_36.1 c x l i r92_36.2
 )
 (
 (Qg CC lo (DV.fn 144 []) [a,b,c,az] σ35).bind fun r99_37=>
 (Ql r99_37.1 0).bind fun bh=>
 (Ql r99_37.1 1).bind fun df=>
 (binOp PP .sub 3 bh b).bind fun dp=>
 (binOp PP .sub 3 c bh).bind fun dh=>
 (binOp PP .quo 3 t (DV.p (PV.int IntKind.i64 (8)))).bind fun dg=>
 (binOp PP .lss 3 dp dh).bind fun bw=>
 Qj bw
 (
 (binOp PP .geq 3 dp dg).bind fun cp=>
 (Qg CC lo (DV.fn 123 []) [a,b,bh,x] r99_37.2).bind fun r121_38=>
 (binOp PP .add 3 bh I1).bind fun dl=>
 f123_L0 G lo a dl c x cp df r121_38.2
 )
 (
 (binOp PP .geq 3 dh dg).bind fun du=>
 (binOp PP .add 3 bh I1).bind fun dc=>
 (Qg CC lo (DV.fn 123 []) [a,dc,c,x] r99_37.2).bind fun r132_39=>
 f123_L0 G lo a b bh x du df r132_39.2
 )
 )
 )
 )
 (
 G _ l true (some (i,r46_4.2)) r46_4.2 fun bj σ40=>
 (Qt l bj (DV.p (PV.bool false))).bind fun bi=>
 G _ bi true (some (M,σ40)) σ40 fun bf σ41=>
 Gp G bi true (binOp PP .eql 169 bf I1) σ41 fun b8 σ42=>
 (Qt bi b8 (DV.p (PV.bool false))).bind fun cb=>
 Qj cb
 (
 (Qg CC lo (DV.fn 141 []) [a,b,c] σ42).bind fun r72_43=>
 Qj r72_43.1
 (
 some ((DV.tuple []),r72_43.2)
 )
 (
 (binOp PP .gtr 3 b I0).bind fun N=>
 G _ N true (some (a,r72_43.2)) r72_43.2 fun cd σ44=>
 G _ N true (some (b,σ44)) σ44 fun bm σ45=>
 Gp G N true (binOp PP .sub 3 bm I1) σ45 fun c8 σ46=>
 Gp G N true (indexAddr PP 22 cd c8) σ46 fun bz σ47=>
 Gp G N true (load PP 3 bz σ47) σ47 fun ca σ48=>
 G _ N true (some (a,σ48)) σ48 fun cq σ49=>
 G _ N true (some (Q,σ49)) σ49 fun n σ50=>
 Gp G N true (indexAddr PP 22 cq n) σ50 fun cz σ51=>
 Gp G N true (load PP 3 cz σ51) σ51 fun bg σ52=>
 Gp G N true (Qi CC (DV.fn 142 []) [ca,bg] σ52) σ52 fun bq σ53=>
 Gp G N true (unOp .not bq) σ53 fun bl σ54=>
 (Qt N bl (DV.p (PV.bool false))).bind fun bn=>
 Qj bn
 (
 (Qg CC lo (DV.fn 143 []) [a,b,c,Q] σ54).bind fun r92_55=>
 f123_L0 G lo a r92_55.1 c x l i r92_55.2
 )
 (
 (Qg CC lo (DV.fn 144 []) [a,b,c,Q] σ54).bind fun r99_56=>
 (Ql r99_56.1 0).bind fun bh=>
 (Ql r99_56.1 1).bind fun df=>
 (binOp PP .sub 3 bh b).bind fun dp=>
 (binOp PP .sub 3 c bh).bind fun dh=>
 (binOp PP .quo 3 t (DV.p (PV.int IntKind.i64 (8)))).bind fun dg=>
 (binOp PP .lss 3 dp dh).bind fun bw=>
 Qj bw
 (
 (binOp PP .geq 3 dp dg).bind fun cp=>
 (Qg CC lo (DV.fn 123 []) [a,b,bh,x] r99_56.2).bind fun r121_57=>
 (binOp PP .add 3 bh I1).bind fun dl=>
 f123_L0 G lo a dl c x cp df r121_57.2
 )
 (
 (binOp PP .geq 3 dh dg).bind fun du=>
 (binOp PP .add 3 bh I1).bind fun dc=>
 (Qg CC lo (DV.fn 123 []) [a,dc,c,x] r99_56.2).bind fun r132_58=>
 f123_L0 G lo a b bh x du df r132_58.2
 )
 )
 )
 )
 (
 (binOp PP .gtr 3 b I0).bind fun N=>
 G _ N true (some (a,σ42)) σ42 fun cd σ59=>
 G _ N true (some (b,σ59)) σ59 fun bm σ60=>
 Gp G N true (binOp PP .sub 3 bm I1) σ60 fun c8 σ61=>
 Gp G N true (indexAddr PP 22 cd c8) σ61 fun bz σ62=>
 Gp G N true (load PP 3 bz σ62) σ62 fun ca σ63=>
 G _ N true (some (a,σ63)) σ63 fun cq σ64=>
 G _ N true (some (Q,σ64)) σ64 fun n σ65=>
 Gp G N true (indexAddr PP 22 cq n) σ65 fun cz σ66=>
 Gp G N true (load PP 3 cz σ66) σ66 fun bg σ67=>
 Gp G N true (Qi CC (DV.fn 142 []) [ca,bg] σ67) σ67 fun bq σ68=>
 Gp G N true (unOp .not bq) σ68 fun bl σ69=>
 (Qt N bl (DV.p (PV.bool false))).bind fun bn=>
 Qj bn
 (
 (Qg CC lo (DV.fn 143 []) [a,b,c,Q] σ69).bind fun r92_70=>
 f123_L0 G lo a r92_70.1 c x l i r92_70.2
 )
 (
 (Qg CC lo (DV.fn 144 []) [a,b,c,Q] σ69).bind fun r99_71=>
 (Ql r99_71.1 0).bind fun bh=>
 (Ql r99_71.1 1).bind fun df=>
 (binOp PP .sub 3 bh b).bind fun dp=>
 (binOp PP .sub 3 c bh).bind fun dh=>
 (binOp PP .quo 3 t (DV.p (PV.int IntKind.i64 (8)))).bind fun dg=>
 (binOp PP .lss 3 dp dh).bind fun bw=>
 Qj bw
 (
 (binOp PP .geq 3 dp dg).bind fun cp=>
 (Qg CC lo (DV.fn 123 []) [a,b,bh,x] r99_71.2).bind fun r121_72=>
 (binOp PP .add 3 bh I1).bind fun dl=>
 f123_L0 G lo a dl c x cp df r121_72.2
 )
 (
 (binOp PP .geq 3 dh dg).bind fun du=>
 (binOp PP .add 3 bh I1).bind fun dc=>
 (Qg CC lo (DV.fn 123 []) [a,dc,c,x] r99_71.2).bind fun r132_73=>
 f123_L0 G lo a b bh x du df r132_73.2
 )
 )
 )
 )
 )
 (
 (Qg CC lo (DV.fn 139 []) [a,b,c] σ).bind fun r46_74=>
 (Ql r46_74.1 0).bind fun Q=>
 (Ql r46_74.1 1).bind fun M=>
 (binOp PP .eql 169 M (DV.p (PV.int IntKind.i64 (2)))).bind fun aw=>
 Qj aw
 (
 (Qg CC lo (DV.fn 140 []) [a,b,c] r46_74.2).bind fun r54_75=>
 (binOp PP .sub 3 c I1).bind fun be=>
 (binOp PP .sub 3 Q b).bind fun bc=>
 (binOp PP .sub 3 be bc).bind fun az=>
 G _ l true (some (i,r54_75.2)) r54_75.2 fun bj σ76=>
 (Qt l bj (DV.p (PV.bool false))).bind fun bi=>
 G _ bi true (some (I1,σ76)) σ76 fun bf σ77=>
 Gp G bi true (binOp PP .eql 169 bf I1) σ77 fun b8 σ78=>
 (Qt bi b8 (DV.p (PV.bool false))).bind fun cb=>
 Qj cb
 (
 (Qg CC lo (DV.fn 141 []) [a,b,c] σ78).bind fun r72_79=>
 Qj r72_79.1
 (
 some ((DV.tuple []),r72_79.2)
 )
 (
 (binOp PP .gtr 3 b I0).bind fun N=>
 G _ N true (some (a,r72_79.2)) r72_79.2 fun cd σ80=>
 G _ N true (some (b,σ80)) σ80 fun bm σ81=>
 Gp G N true (binOp PP .sub 3 bm I1) σ81 fun c8 σ82=>
 Gp G N true (indexAddr PP 22 cd c8) σ82 fun bz σ83=>
 Gp G N true (load PP 3 bz σ83) σ83 fun ca σ84=>
 G _ N true (some (a,σ84)) σ84 fun cq σ85=>
 G _ N true (some (az,σ85)) σ85 fun n σ86=>
 Gp G N true (indexAddr PP 22 cq n) σ86 fun cz σ87=>
 Gp G N true (load PP 3 cz σ87) σ87 fun bg σ88=>
 Gp G N true (Qi CC (DV.fn 142 []) [ca,bg] σ88) σ88 fun bq σ89=>
 Gp G N true (unOp .not bq) σ89 fun bl σ90=>
 (Qt N bl (DV.p (PV.bool false))).bind fun bn=>
 Qj bn
 (
 (Qg CC lo (DV.fn 143 []) [a,b,c,az] σ90).bind fun r92_91=>
 f123_L0 G lo a r92_91.1 c d l i r92_91.2
 )
 (
 (Qg CC lo (DV.fn 144 []) [a,b,c,az] σ90).bind fun r99_92=>
 (Ql r99_92.1 0).bind fun bh=>
 (Ql r99_92.1 1).bind fun df=>
 (binOp PP .sub 3 bh b).bind fun dp=>
 (binOp PP .sub 3 c bh).bind fun dh=>
 (binOp PP .quo 3 t (DV.p (PV.int IntKind.i64 (8)))).bind fun dg=>
 (binOp PP .lss 3 dp dh).bind fun bw=>
 Qj bw
 (
 (binOp PP .geq 3 dp dg).bind fun cp=>
 (Qg CC lo (DV.fn 123 []) [a,b,bh,d] r99_92.2).bind fun r121_93=>
 (binOp PP .add 3 bh I1).bind fun dl=>
 f123_L0 G lo a dl c d cp df r121_93.2
 )
 (
 (binOp PP .geq 3 dh dg).bind fun du=>
 (binOp PP .add 3 bh I1).bind fun dc=>
 (Qg CC lo (DV.fn 123 []) [a,dc,c,d] r99_92.2).bind fun r132_94=>
 f123_L0 G lo a b bh d du df r132_94.2
 )
 )
 )
 )
 (
 (binOp PP .gtr 3 b I0).bind fun N=>
 G _ N true (some (a,σ78)) σ78 fun cd σ95=>
 G _ N true (some (b,σ95)) σ95 fun bm σ96=>
 Gp G N true (binOp PP .sub 3 bm I1) σ96 fun c8 σ97=>
 Gp G N true (indexAddr PP 22 cd c8) σ97 fun bz σ98=>
 Gp G N true (load PP 3 bz σ98) σ98 fun ca σ99=>
 G _ N true (some (a,σ99)) σ99 fun cq σ100=>
 G _ N true (some (az,σ100)) σ100 fun n σ101=>
 Gp G N true (indexAddr PP 22 cq n) σ101 fun cz σ102=>
 Gp G N true (load PP 3 cz σ102) σ102 fun bg σ103=>
 Gp G N true (Qi CC (DV.fn 142 []) [ca,bg] σ103) σ103 fun bq σ104=>
 Gp G N true (unOp .not bq) σ104 fun bl σ105=>
 (Qt N bl (DV.p (PV.bool false))).bind fun bn=>
 Qj bn
 (
 (Qg CC lo (DV.fn 143 []) [a,b,c,az] σ105).bind fun r92_106=>
 f123_L0 G lo a r92_106.1 c d l i r92_106.2
 )
 (
 (Qg CC lo (DV.fn 144 []) [a,b,c,az] σ105).bind fun r99_107=>
 (Ql r99_107.1 0).bind fun bh=>
 (Ql r99_107.1 1).bind fun df=>
 (binOp PP .sub 3 bh b).bind fun dp=>
 (binOp PP .sub 3 c bh).bind fun dh=>
 (binOp PP .quo 3 t (DV.p (PV.int IntKind.i64 (8)))).bind fun dg=>
 (binOp PP .lss 3 dp dh).bind fun bw=>
 Qj bw
 (
 (binOp PP .geq 3 dp dg).bind fun cp=>
 (Qg CC lo (DV.fn 123 []) [a,b,bh,d] r99_107.2).bind fun r121_108=>
 (binOp PP .add 3 bh I1).bind fun dl=>
 f123_L0 G lo a dl c d cp df r121_108.2
 )
 (
 (binOp PP .geq 3 dh dg).bind fun du=>
 (binOp PP .add 3 bh I1).bind fun dc=>
 (Qg CC lo (DV.fn 123 []) [a,dc,c,d] r99_107.2).bind fun r132_109=>
 f123_L0 G lo a b bh d du df r132_109.2
 )
 )
 )
 )
 (
 G _ l true (some (i,r46_74.2)) r46_74.2 fun bj σ110=>
 (Qt l bj (DV.p (PV.bool false))).bind fun bi=>
 G _ bi true (some (M,σ110)) σ110 fun bf σ111=>
 Gp G bi true (binOp PP .eql 169 bf I1) σ111 fun b8 σ112=>
 (Qt bi b8 (DV.p (PV.bool false))).bind fun cb=>
 Qj cb
 (
 (Qg CC lo (DV.fn 141 []) [a,b,c] σ112).bind fun r72_113=>
 Qj r72_113.1
 (
 some ((DV.tuple []),r72_113.2)
 )
 (
 (binOp PP .gtr 3 b I0).bind fun N=>
 G _ N true (some (a,r72_113.2)) r72_113.2 fun cd σ114=>
 G _ N true (some (b,σ114)) σ114 fun bm σ115=>
 Gp G N true (binOp PP .sub 3 bm I1) σ115 fun c8 σ116=>
 Gp G N true (indexAddr PP 22 cd c8) σ116 fun bz σ117=>
 Gp G N true (load PP 3 bz σ117) σ117 fun ca σ118=>
 G _ N true (some (a,σ118)) σ118 fun cq σ119=>
 G _ N true (some (Q,σ119)) σ119 fun n σ120=>
 Gp G N true (indexAddr PP 22 cq n) σ120 fun cz σ121=>
 Gp G N true (load PP 3 cz σ121) σ121 fun bg σ122=>
 Gp G N true (Qi CC (DV.fn 142 []) [ca,bg] σ122) σ122 fun bq σ123=>
 Gp G N true (unOp .not bq) σ123 fun bl σ124=>
 (Qt N bl (DV.p (PV.bool false))).bind fun bn=>
 Qj bn
 (
 (Qg CC lo (DV.fn 143 []) [a,b,c,Q] σ124).bind fun r92_125=>
 f123_L0 G lo a r92_125.1 c d l i r92_125.2
 )
 (
 (Qg CC lo (DV.fn 144 []) [a,b,c,Q] σ124).bind fun r99_126=>
 (Ql r99_126.1 0).bind fun bh=>
 (Ql r99_126.1 1).bind fun df=>
 (binOp PP .sub 3 bh b).bind fun dp=>
 (binOp PP .sub 3 c bh).bind fun dh=>
 (binOp PP .quo 3 t (DV.p (PV.int IntKind.i64 (8)))).bind fun dg=>
 (binOp PP .lss 3 dp dh).bind fun bw=>
 Qj bw
 (
 (binOp PP .geq 3 dp dg).bind fun cp=>
 (Qg CC lo (DV.fn 123 []) [a,b,bh,d] r99_126.2).bind fun r121_127=>
 (binOp PP .add 3 bh I1).bind fun dl=>
 f123_L0 G lo a dl c d cp df r121_127.2
 )
 (
 (binOp PP .geq 3 dh dg).bind fun du=>
 (binOp PP .add 3 bh I1).bind fun dc=>
 (Qg CC lo (DV.fn 123 []) [a,dc,c,d] r99_126.2).bind fun r132_128=>
 f123_L0 G lo a b bh d du df r132_128.2
 )
 )
 )
 )
 (
 (binOp PP .gtr 3 b I0).bind fun N=>
 G _ N true (some (a,σ112)) σ112 fun cd σ129=>
 G _ N true (some (b,σ129)) σ129 fun bm σ130=>
 Gp G N true (binOp PP .sub 3 bm I1) σ130 fun c8 σ131=>
 Gp G N true (indexAddr PP 22 cd c8) σ131 fun bz σ132=>
 Gp G N true (load PP 3 bz σ132) σ132 fun ca σ133=>
 G _ N true (some (a,σ133)) σ133 fun cq σ134=>
 G _ N true (some (Q,σ134)) σ134 fun n σ135=>
 Gp G N true (indexAddr PP 22 cq n) σ135 fun cz σ136=>
 Gp G N true (load PP 3 cz σ136) σ136 fun bg σ137=>
 Gp G N true (Qi CC (DV.fn 142 []) [ca,bg] σ137) σ137 fun bq σ138=>
 Gp G N true (unOp .not bq) σ138 fun bl σ139=>
 (Qt N bl (DV.p (PV.bool false))).bind fun bn=>
 Qj bn
 (
 (Qg CC lo (DV.fn 143 []) [a,b,c,Q] σ139).bind fun r92_140=>
 f123_L0 G lo a r92_140.1 c d l i r92_140.2
 )
 (
 (Qg CC lo (DV.fn 144 []) [a,b,c,Q] σ139).bind fun r99_141=>
 (Ql r99_141.1 0).bind fun bh=>
 (Ql r99_141.1 1).bind fun df=>
 (binOp PP .sub 3 bh b).bind fun dp=>
 (binOp PP .sub 3 c bh).bind fun dh=>
 (binOp PP .quo 3 t (DV.p (PV.int IntKind.i64 (8)))).bind fun dg=>
 (binOp PP .lss 3 dp dh).bind fun bw=>
 Qj bw
 (
 (binOp PP .geq 3 dp dg).bind fun cp=>
 (Qg CC lo (DV.fn 123 []) [a,b,bh,d] r99_141.2).bind fun r121_142=>
 (binOp PP .add 3 bh I1).bind fun dl=>
 f123_L0 G lo a dl c d cp df r121_142.2
 )
 (
 (binOp PP .geq 3 dh dg).bind fun du=>
 (binOp PP .add 3 bh I1).bind fun dc=>
 (Qg CC lo (DV.fn 123 []) [a,dc,c,d] r99_141.2).bind fun r132_143=>
 f123_L0 G lo a b bh d du df r132_143.2
 )
 )
 )
 )
 )
 )
 ):=(Qm G hG).trans (by kernel_rfl)
theorem f123_L0_eq (G:Qh) (hG:Qq G) (lo:Nat) (a b c d l i:DV) (σ:Qa):f123_L0 G lo a b c d l i σ =
 (binOp PP .sub 3 c b).bind fun t=>
 (binOp PP .leq 3 t (DV.p (PV.int IntKind.i64 (12)))).bind fun u=>
 Qj u
 (
 (Qg CC lo (DV.fn 136 []) [a,b,c] σ).bind fun r27_1=>
 some ((DV.tuple []),r27_1.2)
 )
 (
 (binOp PP .eql 3 d I0).bind fun af=>
 Qj af
 (
 (Qg CC lo (DV.fn 137 []) [a,b,c] σ).bind fun r33_2=>
 some ((DV.tuple []),r33_2.2)
 )
 (
 (unOp .not l).bind fun aq=>
 Qj aq
 (
 (Qg CC lo (DV.fn 138 []) [a,b,c] σ).bind fun r39_3=>
 (binOp PP .sub 3 d I1).bind fun x=>
 f123_J0 G lo a b c x l i t c b t t u d af l aq a b c r39_3.1 d x r39_3.2
 )
 (
 f123_J0 G lo a b c d l i t c b t t u d af l aq Z Z Z Z Z Z σ
 )
 )
 ):=(f123_L0_eqN G hG lo a b c d l i σ).trans (by simp only [f123_J0_eq,f123_J1_eq,f123_J2_eq])
theorem F123_eq (G:Qh) (lo:Nat) (a b c d:DV) (σ:Qa):F123 G lo a b c d σ =
 f123_L0 G lo a b c d (DV.p (PV.bool true)) (DV.p (PV.bool true)) σ:=by kernel_rfl
theorem F123_call {lo:Nat} {a b c d:DV} (h:F123 Qb lo a b c d σ=some r):CC lo 123 [a,b,c,d] σ=some r:=
 callL_run Tryz.func123 (by decide +kernel) rfl (by decide +kernel) h
def c136_0:Code:=Qw Tryz.f136
def a136_0:Ann:=(pol 136).ann
def a136_2:Ann:=right a136_0
def a136_3:Ann:=left a136_2
def c136_4:Code:=fstC (fstC (sndC c136_0))
def a136_11:Ann:=left (right (left a136_3))
def a136_14:Ann:=right (left a136_11)
def a136_15:Ann:=left a136_14
def c136_16:Code:=fstC (fstC (sndC (fstC (fstC (sndC c136_4)))))
def c136_26:Code:=sndC (sndC c136_4)
def a136_26:Ann:=right (right (left a136_3))
def f136_L0 (a b c K:DV) (σ:Qa):RS:=
 Qo G PP (pol 136) CC lo (.loop c136_4) a136_3 (a::b::c::Z::Z::Z::K::zn 42 []) σ
 (Qk 0 a136_2 (finR PP Tryz.f136.results.toList))
def f136_L1 (a b c K F:DV) (σ:Qa):RS:=
 Qo G PP (pol 136) CC lo (.loop c136_16) a136_15 (a::b::c::Z::Z::Z::K::F::zn 41 []) σ
 (Qk 2 a136_14 (Qk 1 a136_11 (seqC G PP (pol 136) CC lo c136_26 a136_26 (QY G PP (pol 136) CC lo c136_4 a136_3 (Qk 0 a136_2 (finR PP Tryz.f136.results.toList))))))
def F136 (a b c:DV) (σ:Qa):RS:=
 Qo G PP (pol 136) CC lo c136_0 a136_0 (a::b::c::zn 46 []) σ (finR PP Tryz.f136.results.toList)
theorem f136_L0_eq (G:Qh) (hG:Qq G) (lo:Nat) (a b c K:DV) (σ:Qa):f136_L0 G lo a b c K σ =
 (binOp PP .lss 3 K c).bind fun k=>
 Qj k
 (
 f136_L1 G lo a b c K K σ
 )
 (
 some ((DV.tuple []),σ)
 ):=(Qm G hG).trans (by kernel_rfl)
theorem f136_L1_eq (G:Qh) (hG:Qq G) (lo:Nat) (a b c K F:DV) (σ:Qa):f136_L1 G lo a b c K F σ =
 (binOp PP .gtr 3 F b).bind fun R=>
 G _ R true (some (a,σ)) σ fun L σ1=>
 G _ R true (some (F,σ1)) σ1 fun t σ2=>
 Gp G R true (indexAddr PP 22 L t) σ2 fun o σ3=>
 Gp G R true (load PP 3 o σ3) σ3 fun u σ4=>
 G _ R true (some (a,σ4)) σ4 fun I σ5=>
 G _ R true (some (F,σ5)) σ5 fun A σ6=>
 Gp G R true (binOp PP .sub 3 A I1) σ6 fun ah σ7=>
 Gp G R true (indexAddr PP 22 I ah) σ7 fun W σ8=>
 Gp G R true (load PP 3 W σ8) σ8 fun au σ9=>
 Gp G R true (Qi CC (DV.fn 142 []) [u,au] σ9) σ9 fun af σ10=>
 (Qt R af (DV.p (PV.bool false))).bind fun ak=>
 Qj ak
 (
 (binOp PP .sub 3 F I1).bind fun ar=>
 (binOp PP .sub 3 F I1).bind fun C=>
 (indexAddr PP 22 a C).bind fun x=>
 (load PP 3 x σ10).bind fun B=>
 (indexAddr PP 22 a F).bind fun P=>
 (load PP 3 P σ10).bind fun y=>
 (indexAddr PP 22 a F).bind fun Q=>
 (store PP lo 3 Q B σ10).bind fun σ11=>
 (indexAddr PP 22 a ar).bind fun M=>
 (store PP lo 3 M y σ11).bind fun σ12=>
 (binOp PP .sub 3 F I1).bind fun H=>
 f136_L1 G lo a b c K H σ12
 )
 (
 (binOp PP .add 3 K I1).bind fun w=>
 f136_L0 G lo a b c w σ10
 ):=(Qm G hG).trans (by kernel_rfl)
theorem F136_eq (G:Qh) (lo:Nat) (a b c:DV) (σ:Qa):F136 G lo a b c σ =
 (binOp PP .add 3 b I1).bind fun i=>
 f136_L0 G lo a b c i σ:=by kernel_rfl
theorem F136_call {lo:Nat} {a b c:DV} (h:F136 Qb lo a b c σ=some r):CC lo 136 [a,b,c] σ=some r:=
 callL_run Tryz.func136 (by decide +kernel) rfl (by decide +kernel) h
def c142_0:Code:=Qw Tryz.f142
def a142_0:Ann:=(pol 142).ann
def F142 (a b:DV) (σ:Qa):RS:=
 Qo G PP (pol 142) CC lo c142_0 a142_0 (a::b::zn 15 []) σ (finR PP Tryz.f142.results.toList)
theorem F142_eq (G:Qh) (lo:Nat) (a b:DV) (σ:Qa):F142 G lo a b σ =
 (Qi CC (DV.fn 120 []) [a] σ).bind fun K=>
 G _ K true (some (b,σ)) σ fun l σ1=>
 Gp G K true (Qi CC (DV.fn 120 []) [l] σ1) σ1 fun i σ2=>
 Gp G K true (unOp .not i) σ2 fun g σ3=>
 (Qt K g (DV.p (PV.bool false))).bind fun j=>
 G _ j false (some (a,σ3)) σ3 fun q σ4=>
 G _ j false (some (b,σ4)) σ4 fun w σ5=>
 Gp G j false (binOp PP .lss 3 q w) σ5 fun z σ6=>
 (Qt j (DV.p (PV.bool true)) z).bind fun U=>
 some (U,σ6):=by kernel_rfl
theorem F142_call {lo:Nat} {a b:DV} (h:F142 Qb lo a b σ=some r):CC lo 142 [a,b] σ=some r:=
 callL_run Tryz.func142 (by decide +kernel) rfl (by decide +kernel) h
def c114_0:Code:=Qw Tryz.f114
def a114_0:Ann:=(pol 114).ann
def a114_13:Ann:=right (left (right (right a114_0)))
def a114_14:Ann:=left a114_13
def c114_15:Code:=fstC (fstC (sndC (fstC (sndC (sndC c114_0)))))
def a114_22:Ann:=left (right (left a114_14))
def a114_31:Ann:=right (left (right (left (right (left a114_22)))))
def a114_32:Ann:=left a114_31
def c114_33:Code:=fstC (fstC (sndC (fstC (sndC (fstC (sndC (fstC (fstC (sndC c114_15)))))))))
def c114_49:Code:=sndC (sndC (fstC (sndC (fstC (fstC (sndC c114_15))))))
def a114_49:Ann:=right (right (left (right (left a114_22))))
def c114_55:Code:=sndC (sndC c114_15)
def a114_55:Ann:=right (right (left a114_14))
def c114_56:Code:=sndC (sndC (sndC c114_0))
def a114_56:Ann:=right (right (right a114_0))
def f114_L0 (a d:DV) (σ:Qa):RS:=
 Qo G PP (pol 114) CC lo (.loop c114_15) a114_14 (a::Z::Z::d::zn 57 []) σ
 (Qk 0 a114_13 (seqC G PP (pol 114) CC lo c114_56 a114_56 (finR PP Tryz.f114.results.toList)))
def f114_L1 (a d f m:DV) (σ:Qa):RS:=
 Qo G PP (pol 114) CC lo (.loop c114_33) a114_32 (a::Z::Z::d::f::m::zn 55 []) σ
 (Qk 2 a114_31 (seqC G PP (pol 114) CC lo c114_49 a114_49 (Qk 1 a114_22 (seqC G PP (pol 114) CC lo c114_55 a114_55 (QY G PP (pol 114) CC lo c114_15 a114_14 (Qk 0 a114_13 (seqC G PP (pol 114) CC lo c114_56 a114_56 (finR PP Tryz.f114.results.toList))))))))
def F114 (a:DV) (σ:Qa):RS:=
 Qo G PP (pol 114) CC lo c114_0 a114_0 (a::zn 60 []) σ (finR PP Tryz.f114.results.toList)
theorem f114_L0_eq (G:Qh) (hG:Qq G) (lo:Nat) (a d:DV) (σ:Qa):f114_L0 G lo a d σ =
 (len PP 22 a σ).bind fun k=>
 (binOp PP .lss 3 d k).bind fun q=>
 Qj q
 (
 (indexAddr PP 22 a d).bind fun R=>
 (load PP 3 R σ).bind fun av=>
 (binOp PP .sub 3 d I1).bind fun o=>
 (indexAddr PP 22 a o).bind fun u=>
 (load PP 3 u σ).bind fun I=>
 (binOp PP .eql 3 av I).bind fun A=>
 Qj A
 (
 (ZY PP 22 a (some d) none none).bind fun au=>
 f114_L1 G lo a d au I1 σ
 )
 (
 (binOp PP .add 3 d I1).bind fun z=>
 f114_L0 G lo a z σ
 )
 )
 (
 some (a,σ)
 ):=(Qm G hG).trans (by kernel_rfl)
theorem F114_eq (G:Qh) (lo:Nat) (a:DV) (σ:Qa):F114 G lo a σ =
 (len PP 22 a σ).bind fun F=>
 (binOp PP .lss 3 F (DV.p (PV.int IntKind.i64 (2)))).bind fun l=>
 Qj l
 (
 some (a,σ)
 )
 (
 f114_L0 G lo a I1 σ
 ):=by kernel_rfl
theorem F114_call {lo:Nat} {a:DV} (h:F114 Qb lo a σ=some r):CC lo 114 [a] σ=some r:=
 callL_run Tryz.func114 (by decide +kernel) rfl (by decide +kernel) h
end
end Go.D
end
/- Chapter 22: graph, third part: the numbers of the first states; ascending numbers are sorted. -/
section
set_option linter.unusedVariables false
set_option linter.unusedSimpArgs false
namespace Go.D.StS
open Go.D.Srt
def RowG (σ:Qa) (B sz n:Nat) (cs:List PV) (x:DV):Prop:=cs.length=n*sz∧((n=0∧x=.p .nilsl)∨(n≠0∧∃ r,x=.rsl r sz 0 n∧σ[r]?=some (.mix (cs.map DV.p))∧B≤r))
def rowR:DV→Option Nat
  | .rsl r _ _ _=>some r
  | _=>none
def KeepBut (x:DV) (σ σ':Qa):Prop:=∀ (j:Nat) (row:Row),(∀ r,rowR x=some r→j≠r)→σ[j]?=some row→σ'[j]?=some row
theorem RowG.zero {σ:Qa} {B sz:Nat}:RowG σ B sz 0 [] (.p .nilsl):=⟨by simp,.inl ⟨rfl,rfl⟩⟩
theorem RowG.push {σ:Qa} {t e lo B sz b n:Nat} {z:List DV} {cs vs:List PV} {x:DV} (hs:ZI PP t=true) (hu:PP.underlying t=some (.slice e)) (h1:size? PP e=some sz) (h2:bytes? PP e=some b) (h3:Qz PP e=some z)
    (h4:z.length=sz) (hz:0<sz) (hb:0<b) (hb2:b≤1000) (hv:vs.length=sz) (ho:RowG σ B sz n cs x) (hn:n≤10000000) (hB:B≤σ.length) (hlo:lo≤B) :
    ∃ σ',append PP lo true t t x (.p (.sl true 1 vs)) σ=some (.rsl σ.length sz 0 (n+1),σ')∧RowG σ' B sz (n+1) (cs++vs) (.rsl σ.length sz 0 (n+1))∧KeepBut x σ σ'∧σ'.length=σ.length+1:=by
  have hsrc:Wb σ sz (.p (.sl true 1 vs))=some (1,vs.map DV.p):=by simp [Wb,hv]
  have hz0:¬ (z.length≠sz∨sz=0):=by omega
  obtain ⟨hc,ho⟩:=ho
  rcases ho with ⟨rfl,rfl⟩ | ⟨hn0,r,rfl,hr,hl⟩
  · have:cs=[]:=List.length_eq_zero_iff.1 (by simpa using hc)
    subst this
    refine ⟨σ++[.mix (vs.map DV.p)],?_,⟨by simp [hv],.inr ⟨by simp,σ.length,rfl,?_,hB⟩⟩,fun j row _ g=>QV g,by simp⟩
    · have:b≤140737488355328:=by omega
      simp only [append,hs,hu,h1,h2,h3,hz0,hsrc,Up]
      simp [this,hb,h4,hz,Nat.ne_of_gt hz]
    · rw [List.nil_append]; exact QE
  · have hrl:=QW hr
    refine ⟨σ.set r .dead++[.mix ((cs++vs).map DV.p)],?_,⟨by simp [hc,hv,Nat.add_mul],.inr ⟨by simp,σ.length,rfl,?_,hB⟩⟩,fun j row hj g=>QV (Qv g (hj r rfl)),by simp⟩
    · have e1:(n+1)*b≤140737488355328:=Nat.le_trans (Nat.mul_le_mul (show n+1≤10000001 by omega) hb2) (by decide)
      have e2:n+1≤140737488355328:=by omega
      have e3:lo≤r:=by omega
      have e4:¬ (0+(n+1)*sz≤(cs.map DV.p).length):=by rw [List.length_map,hc,Nat.add_mul]; omega
      have e5:0+n*sz=(cs.map DV.p).length:=by rw [List.length_map,hc]; omega
      have e6:(vs.map DV.p).all DV.one=true:=by simp [DV.one]
      have e7:(List.map DV.p cs).take (n*sz)=List.map DV.p cs:=List.take_of_length_le (by rw [List.length_map,hc]; exact Nat.le_refl _)
      simp only [append,hs,hu,h1,h2,h3,hz0,hsrc,appRow]
      have e8:¬ (n*sz+sz≤n*sz):=by omega
      have e9:n*b+b≤140737488355328:=by rw [Nat.add_mul] at e1; omega
      simp [e9,e8,e2,e3,hr,e6,hc,hb,h4,Nat.add_mul,hv,Nat.ne_of_gt hz]
    · have:(σ.set r .dead).length=σ.length:=by simp
      rw [←this]; exact QE
theorem RowG.snoc {σ:Qa} {B sz n:Nat} {cs:List PV} {x:DV} (h:RowG σ B sz n cs x) (row:Row):RowG (σ++[row]) B sz n cs x:=by
  refine ⟨h.1,?_⟩
  rcases h.2 with h1 | ⟨h0,r,e1,e2,e3⟩
  · exact .inl h1
  · exact .inr ⟨h0,r,e1,QV e2,e3⟩
theorem RowG.setNe {σ:Qa} {B sz n q:Nat} {cs:List PV} {x:DV} {row:Row} (h:RowG σ B sz n cs x) (hq:q<B):RowG (σ.set q row) B sz n cs x:=by
  refine ⟨h.1,?_⟩
  rcases h.2 with h1 | ⟨h0,r,e1,e2,e3⟩
  · exact .inl h1
  · exact .inr ⟨h0,r,e1,Qv e2 (by omega),e3⟩
theorem RowG.keep {σ σ':Qa} {B sz n:Nat} {cs:List PV} {x z:DV} (h:RowG σ B sz n cs x) (hk:KeepBut z σ σ') (ha:∀ r,rowR z=some r→rowR x≠some r):RowG σ' B sz n cs x:=by
  refine ⟨h.1,?_⟩
  rcases h.2 with h1 | ⟨h0,r,e1,e2,e3⟩
  · exact .inl h1
  · exact .inr ⟨h0,r,e1,hk r _ (fun q hq e=>ha q hq (by rw [e1,e]; rfl)) e2,e3⟩
theorem RowL.keep {σ σ':Qa} {B:Nat} {A:List E} {x z:DV} (h:RowL σ B A x) (hk:KeepBut z σ σ') (ha:∀ r,rowR z=some r→rowR x≠some r):RowL σ' B A x:=by
  rcases h with h1 | ⟨r,e1,e2,e3,e4⟩
  · exact .inl h1
  · exact .inr ⟨r,e1,hk r _ (fun q hq e=>ha q hq (by rw [e1,e]; rfl)) e2,e3,e4⟩
theorem RowG.row_ge {σ:Qa} {B sz n:Nat} {cs:List PV} {x:DV} (h:RowG σ B sz n cs x) {r:Nat} (hr:rowR x=some r):B≤r∧r<σ.length∧σ[r]?=some (.mix (cs.map DV.p)):=by
  rcases h.2 with ⟨_,rfl⟩ | ⟨h0,r',rfl,e2,e3⟩
  · simp [rowR] at hr
  · have:r'=r:=by simpa [rowR] using hr
    subst this
    exact ⟨e3,QW e2,e2⟩
theorem Out.keep {σ σ':Qa} {lo B sz n sz' n':Nat} {cs cs':List PV} {x z:DV} (h:Out σ lo sz n cs x) (hz:RowG σ B sz' n' cs' z) (hk:KeepBut z σ σ'):Out σ' lo sz n cs x:=by
  refine ⟨h.1,?_⟩
  rcases h.2 with h1 | ⟨h0,r,ver,e1,e2,e3⟩
  · exact .inl h1
  · refine .inr ⟨h0,r,ver,e1,hk r _ (fun q hq e=>?_) e2,e3⟩
    subst e
    have:=(hz.row_ge hq).2.2
    rw [e2] at this
    cases this
theorem GY.keep {σ0:Qa} {ext o:List DV} {l:List (E×Int)} {A:List E} {y z:DV} {σ σ':Qa} {sz n:Nat} {cs:List PV} (h:GY σ0 ext l A o y σ) (hz:RowG σ (σ0.length+5) sz n cs z) (hk:KeepBut z σ σ') (ha:∀ r,rowR z=some r→rowR y≠some r):GY σ0 ext l A o y σ':=by
  have hl:=h.g.len
  obtain ⟨c,z1,z2⟩:=h.g.z2
  have km:∀ (j:Nat) (row:Row),j<σ0.length+5→σ[j]?=some row→σ'[j]?=some row:=fun j row hj e=>hk j row (fun r hr=>by have:=(hz.row_ge hr).1; omega) e
  have hr:=h.ry.keep hk ha
  refine ⟨⟨fun j hj=>?_,km _ _ (by omega) h.g.ex,⟨c,km _ _ (by omega) z1,z2⟩,km _ _ (by omega) h.g.mp,km _ _ (by omega) h.g.ot,h.g.ol,y,km _ _ (by omega) h.ay,hr⟩,km _ _ (by omega) h.ay,hr⟩
  have hj2:=h.g.low j hj
  cases hx:σ0[j]? with
  | none=>have:=List.getElem?_eq_none_iff.1 hx; omega
  | some row=>
    rw [hx] at hj2
    exact km j row (by omega) hj2
theorem S142 (a b:Int) (σ:Qa):Qx CC 142 [.p (.int .i64 a),.p (.int .i64 b)] σ=some (.p (.bool (decide (a<b)))):=by
  refine Qn rfl rfl (F142_call (r:=(.p (.bool (decide (a<b))),[])) ?_) rfl
  rw [F142_eq]
  have h:=S120 a []
  simp only [pI] at h
  simp only [Qc,List.append_nil,h,gG,Qp]
theorem idx22r {r n i:Nat} (h:i<n):indexAddr PP 22 (.rsl r 1 0 n) (.p (.int .i64 (i:Nat)))=some (.ptr r i):=by
  have h2:(0:Int)≤(i:Int)∧(i:Int)<(n:Nat):=by omega
  simp [indexAddr,u22,s3,h2]
theorem ldI {σ:Qa} {r i:Nat} {ds:List Int} (h:σ[r]?=some (.mix ((Qu ds).map DV.p))) (hi:i<ds.length):ZG (.ptr r i) σ=some (.p (.int .i64 (ds.getD i 0))):=by
  refine Qd h ?_
  rw [List.getElem?_map,Qu,List.getElem?_map,List.getD_eq_getElem?_getD,List.getElem?_eq_getElem hi]
  rfl
theorem len22r (r n:Nat) (σ:Qa):len PP 22 (.rsl r 1 0 n) σ=some (.p (.int .i64 (n:Nat))):=by simp [len,u22]
section
variable {σ : Qa} {r : Nat} {ds : List Int} (h : σ[r]? = some (.mix ((Qu ds).map DV.p))) (hasc : ∀ i, i + 1 < ds.length → ds.getD i 0 ≤ ds.getD (i + 1) 0) (hn : ds.length ≤ 100000)
include h hasc hn
theorem asc_ins:∀ (d i:Nat),ds.length-i=d→1≤i→f136_L0 Qb 0 (.rsl r 1 0 ds.length) (N 0) (N ds.length) (N i) σ=some (.tuple [],σ)
  | 0,i,hd,hi=>by
    rw [f136_L0_eq Qb rfl]
    simp (disch:=omega) only [N,Qp,ltF,gG]
  | d+1,i,hd,hi=>by
    have ih:=asc_ins d (i+1) (by omega) (by omega)
    have hle:=hasc (i-1) (by omega)
    rw [show i-1+1=i by omega] at hle
    rw [←ih,f136_L0_eq Qb rfl]
    simp (disch:=omega) only [N,Qp,ltT,gG]
    rw [f136_L1_eq Qb rfl]
    simp (disch:=omega) only [N,Zi,gtT,gG,idx22r,QJ,ldI h,sub1,Qc,List.append_nil,S142,ltF,add1]
end
theorem S113 {σ:Qa} {B:Nat} {ds:List Int} {x:DV} (hx:RowG σ B 1 ds.length (Qu ds) x) (hasc:∀ i,i+1<ds.length→ds.getD i 0≤ds.getD (i+1) 0) (hn:ds.length≤12):CC 0 113 [x] σ=some (.tuple [],σ):=by
  obtain ⟨b,e1,h2,h3⟩:=Jd (n:=ds.length) (by omega)
  have hl:len PP 22 x σ=some (.p (.int .i64 ((ds.length:Nat):Int))):=by
    rcases hx.2 with ⟨e,rfl⟩ | ⟨h0,r,rfl,_,_⟩
    · rw [e,len22_nil]; rfl
    · exact len22r _ _ _
  have a1:binOp PP .add 3 (.p (.int .i64 0)) (.p (.int .i64 1))=some (.p (.int .i64 ((1:Nat):Int))):=add1 (a:=0) (by omega)
  have c0:CC 0 136 [x,.p (.int .i64 0),.p (.int .i64 ((ds.length:Nat):Int))] σ=some (.tuple [],σ):=by
    refine F136_call ?_
    rw [F136_eq]
    simp only [a1,gG]
    rcases hx.2 with ⟨e,rfl⟩ | ⟨h0,r,rfl,e2,_⟩
    · rw [e,f136_L0_eq Qb rfl]
      simp (disch:=omega) only [Qp,ltF,gG]
    · exact asc_ins e2 hasc (by omega) _ 1 rfl (Nat.le_refl 1)
  have c1:CC 0 123 [x,.p (.int .i64 0),.p (.int .i64 ((ds.length:Nat):Int)),I b] σ=some (.tuple [],σ):=by
    refine F123_call ?_
    have a2:binOp PP .sub 3 (.p (.int .i64 ((ds.length:Nat):Int))) (.p (.int .i64 0))=some (.p (.int .i64 ((ds.length-0:Nat):Int))):=subN (a:=ds.length) (b:=0) (Nat.zero_le _) (by omega)
    rw [F123_eq,f123_L0_eq Qb rfl]
    simp (disch:=omega) only [a2,Za,leT,gG,Qs,List.append_nil,c0]
  refine F113_call ?_
  simp only [I,U] at c1 e1
  rw [F113_eq]
  simp (disch:=omega) only [hl,gG,Jc,Qc,Qs,List.append_nil,e1,c1]
section
variable {σ : Qa} {r : Nat} {ds : List Int} (h : σ[r]? = some (.mix ((Qu ds).map DV.p))) (hasc : ∀ i, i + 1 < ds.length → ds.getD i 0 < ds.getD (i + 1) 0) (hn : ds.length ≤ 100000)
include h hasc hn
theorem asc_cmp:∀ (d i:Nat),ds.length-i=d→1≤i→f114_L0 Qb 0 (.rsl r 1 0 ds.length) (N i) σ=some (.rsl r 1 0 ds.length,σ)
  | 0,i,hd,hi=>by
    rw [f114_L0_eq Qb rfl]
    simp (disch:=omega) only [N,len22r,Qp,ltF,gG]
  | d+1,i,hd,hi=>by
    have ih:=asc_cmp d (i+1) (by omega) (by omega)
    have hle:=hasc (i-1) (by omega)
    rw [show i-1+1=i by omega] at hle
    rw [←ih,f114_L0_eq Qb rfl]
    simp (disch:=omega) only [N,len22r,Qp,ltT,gG,idx22r,QJ,ldI h,sub1,Zc,eqF,add1]
end
theorem S114 {σ:Qa} {B:Nat} {ds:List Int} {x:DV} (hx:RowG σ B 1 ds.length (Qu ds) x) (hasc:∀ i,i+1<ds.length→ds.getD i 0<ds.getD (i+1) 0) (hn:ds.length≤100000):CC 0 114 [x] σ=some (x,σ):=by
  refine F114_call ?_
  rw [F114_eq]
  rcases hx.2 with ⟨e,rfl⟩ | ⟨h0,r,rfl,e2,_⟩
  · simp (disch:=omega) only [len22_nil,Qp,ltT,gG]
  · by_cases h1:ds.length<2
    · simp (disch:=omega) only [len22r,Qp,ltT,gG]
    · simp (disch:=omega) only [len22r,Qp,ltF,gG]
      exact asc_cmp e2 hasc hn _ 1 rfl (Nat.le_refl 1)
end Go.D.StS
end
/- Chapter 22: graph, fourth part: the numbers of the first states. -/
section
set_option linter.unusedVariables false
set_option linter.unusedSimpArgs false
namespace Go.D.StS
open Go.D.Srt
def nums (B:List E) (l:List E):List Int:=l.map fun e=>((B.idxOf e:Nat):Int)
theorem ZR {B:List E} {e:E} (h:e∈B):B.idxOf e<B.length∧ge B (B.idxOf e)=e:=by
  have h1:=List.idxOf_lt_length_of_mem h
  exact ⟨h1,by rw [ZA h1]; exact List.getElem_idxOf h1⟩
structure GZ (σ0:Qa) (ext:List DV) (m:List (E×Int)) (B:List E) (n:DV) (is:List Int) (ix:DV) (es:List Edg) (ex bx ax y:DV) (σ:Qa):Prop where
  gy:GY σ0 ext m B [n,ix,ex,bx,ax] y σ
  gm:∀ j,j<B.length→WZ m (ge B j)=some (j:Int)
  ob:Out σ (σ0.length+5) 1 B.length (Qu (B.map Prod.fst)) bx
  oa:Out σ (σ0.length+5) 1 B.length (Qu (B.map Prod.snd)) ax
  ap:Apart bx ax
  ri:RowG σ (σ0.length+5) 1 is.length (Qu is) ix
  re:RowG σ (σ0.length+5) 3 es.length (Ze es) ex
  iy:∀ r,rowR ix=some r→rowR y≠some r
  ey:∀ r,rowR ex=some r→rowR y≠some r
  ie:∀ r,rowR ix=some r→rowR ex≠some r
section
variable {σ0 : Qa} {ext : List DV} {m : List (E × Int)} {B : List E} {n : DV} {is : List Int} {ix ex : DV} {es : List Edg} {bx ax y : DV} {σ : Qa}
theorem GZ.snoc (h:GZ σ0 ext m B n is ix es ex bx ax y σ) (row:Row):GZ σ0 ext m B n is ix es ex bx ax y (σ++[row]):=
  ⟨h.gy.snoc row,h.gm,Out.snocM h.ob row,Out.snocM h.oa row,h.ap,h.ri.snoc row,h.re.snoc row,h.iy,h.ey,h.ie⟩
theorem GZ.num (h:GZ σ0 ext m B n is ix es ex bx ax y σ) {e:E} (he:e∈B):(WZ m e).getD 0=((B.idxOf e:Nat):Int):=by
  obtain ⟨h1,h2⟩:=ZR he
  have:=h.gm _ h1
  rw [h2] at this
  rw [this]; rfl
theorem row_new {y:DV} {σ:Qa} {B:Nat} {A:List E} (h:RowL σ B A y) {r:Nat} (hr:σ.length≤r):rowR y≠some r:=by
  rcases h with ⟨_,rfl⟩ | ⟨r',rfl,e,_⟩
  · simp [rowR]
  · have:=QW e
    simp [rowR]; omega
theorem rowG_new {y:DV} {σ:Qa} {B sz n:Nat} {cs:List PV} (h:RowG σ B sz n cs y) {r:Nat} (hr:σ.length≤r):rowR y≠some r:=fun e=>by
  have:=(h.row_ge e).2.1
  omega
theorem GZ.pushI (h:GZ σ0 ext m B n is ix es ex bx ax y σ) (hn:is.length≤100000) (v:Int) :
    ∃ ix' σ1,append PP 0 true 22 22 ix (.p (.sl true 1 [pI v])) σ=some (ix',σ1)∧store PP 0 22 (.ptr (σ0.length+3) 1) ix' σ1=some (σ1.set (σ0.length+3) (.mix [n,ix',ex,bx,ax,.map (σ0.length+2)]))∧
      GZ σ0 ext m B n (is++[v]) ix' es ex bx ax y (σ1.set (σ0.length+3) (.mix [n,ix',ex,bx,ax,.map (σ0.length+2)])):=by
  have hl:=h.gy.g.len
  obtain ⟨σ1,p1,p2,p3,p4⟩:=h.ri.push (lo:=0) (vs:=[pI v]) Uy u22 s3 VH Ur rfl (by decide) (by decide) (by decide) rfl (by omega) hl (Nat.zero_le _)
  have hy:=h.gy.keep h.ri p3 h.iy
  have hot:=hy.g.ot
  have hst:=st22_1 (v:=.rsl σ.length 1 0 (is.length+1)) hot rfl rfl
  refine ⟨_,σ1,p1,hst,?_⟩
  have e1:Qu is++[pI v]=Qu (is++[v]):=by simp [Qu]
  have e2:(is++[v]).length=is.length+1:=by simp
  rw [e1] at p2
  have hrow:∀ r,rowR (.rsl σ.length 1 0 (is.length+1))=some r→σ.length≤r:=fun r hr=>by
    have:σ.length=r:=by simpa [rowR] using hr
    omega
  refine ⟨hy.setO (o':=[n,.rsl σ.length 1 0 (is.length+1),ex,bx,ax]) rfl,h.gm,Out.setLow (Out.keep h.ob h.ri p3) (by omega) _,Out.setLow (Out.keep h.oa h.ri p3) (by omega) _,h.ap,?_,(h.re.keep p3 h.ie).setNe (by omega),?_,h.ey,?_⟩
  · rw [e2]; exact p2.setNe (by omega)
  · exact fun r hr=>row_new h.gy.ry (hrow r hr)
  · exact fun r hr=>rowG_new h.re (hrow r hr)
theorem GZ.pushE (h:GZ σ0 ext m B n is ix es ex bx ax y σ) (hn:es.length≤1000000) (v:Edg) :
    ∃ ex' σ1,append PP 0 true 23 23 ex (.p (.sl true 1 (eEdg v))) σ=some (ex',σ1)∧store PP 0 23 (.ptr (σ0.length+3) 2) ex' σ1=some (σ1.set (σ0.length+3) (.mix [n,ix,ex',bx,ax,.map (σ0.length+2)]))∧
      GZ σ0 ext m B n is ix (es++[v]) ex' bx ax y (σ1.set (σ0.length+3) (.mix [n,ix,ex',bx,ax,.map (σ0.length+2)])):=by
  have hl:=h.gy.g.len
  obtain ⟨σ1,p1,p2,p3,p4⟩:=h.re.push (lo:=0) (vs:=eEdg v) src23 u23 s69 bytes69 UA rfl (by decide) (by decide) (by decide) rfl (by omega) hl (Nat.zero_le _)
  have hy:=h.gy.keep h.re p3 h.ey
  have hot:=hy.g.ot
  have hst:=st23_2 (v:=.rsl σ.length 3 0 (es.length+1)) hot rfl rfl
  refine ⟨_,σ1,p1,hst,?_⟩
  have e1:∀ l:List Edg,Ze l++eEdg v=Ze (l++[v]):=fun l=>by
    induction l with
    | nil=>simp [Ze,eEdg]
    | cons a l ih=>simp only [List.cons_append,Ze,List.append_assoc,ih]
  have e2:(es++[v]).length=es.length+1:=by simp
  rw [e1] at p2
  have hrow:∀ r,rowR (.rsl σ.length 3 0 (es.length+1))=some r→σ.length≤r:=fun r hr=>by
    have:σ.length=r:=by simpa [rowR] using hr
    omega
  refine ⟨hy.setO (o':=[n,ix,.rsl σ.length 3 0 (es.length+1),bx,ax]) rfl,h.gm,Out.setLow (Out.keep h.ob h.re p3) (by omega) _,Out.setLow (Out.keep h.oa h.re p3) (by omega) _,h.ap,(h.ri.keep p3 (fun r hr he=>h.ie r he hr)).setNe (by omega),?_,h.iy,?_,?_⟩
  · rw [e2]; exact p2.setNe (by omega)
  · exact fun r hr=>row_new h.gy.ry (hrow r hr)
  · exact fun r hr=>fun he=>rowG_new h.ri (r:=r) (hrow r he) hr
end
section
variable {σ0 : Qa} {ext : List DV} {m : List (E × Int)} {B : List E} {n : DV} {ex : DV} {es : List Edg} {bx ax y y0 : DV}
theorem gr_L4 {l:List E} (hx:∀ k,k<l.length→indexAddr PP 134 y0 (.p (.int .i64 (k:Nat)))=some (.pptr (Vs l) (k*2))) (hmem:∀ e∈l,e∈B) (hl:l.length≤12) (hasc:∀ i,i+1<(nums B l).length→(nums B l).getD i 0<(nums B l).getD (i+1) 0) :
    ∀ (d k:Nat) (ix:DV) (σ:Qa),l.length-k=d→k≤l.length→GZ σ0 ext m B n (nums B (l.take k)) ix es ex bx ax y σ→
    ∃ ix' σ',f85_L4 Qb 0 (.ptr σ0.length 0) (.ptr (σ0.length+1) 0) (.ptr (σ0.length+3) 0) (.ptr (σ0.length+4) 0) y0 (N l.length) (N k) σ=f85_L5 Qb 0 (.ptr σ0.length 0) (.ptr (σ0.length+1) 0) (.ptr (σ0.length+3) 0) (.ptr (σ0.length+4) 0) y (N B.length) (N 0) σ'∧
      GZ σ0 ext m B n (nums B l) ix' es ex bx ax y σ'
  | 0,k,ix,σ,hd,hk,h=>by
    have e:l.take k=l:=List.take_of_length_le (by omega)
    rw [e] at h
    have hot:=h.gy.g.ot
    simp only [Qe,Qf,Nat.zero_add,Nat.add_zero,Qc,List.append_nil,List.singleton_append,List.cons_append,List.nil_append] at hot
    have hln:(nums B l).length=l.length:=by simp [nums]
    have h113:=S113 h.ri (fun i hi=>Int.le_of_lt (hasc i hi)) (by omega)
    have h114:=S114 h.ri hasc (by omega)
    have hone:ix.one=true∧ix.cells=[ix]:=by
      rcases h.ri.2 with ⟨_,rfl⟩ | ⟨_,q,rfl,_⟩ <;> exact ⟨rfl,rfl⟩
    have hst:=st22_1 (v:=ix) hot hone.1 hone.2
    have hsame:σ.set (σ0.length+3) (.mix [n,ix,ex,bx,ax,.map (σ0.length+2)])=σ:=by
      apply List.ext_getElem?
      intro i
      by_cases hi:i=σ0.length+3
      · subst hi; rw [List.getElem?_set_self (QW hot),hot]
      · rw [List.getElem?_set_ne (by omega)]
    rw [hsame] at hst
    refine ⟨ix,σ,?_,h⟩
    rw [f85_L4_eq Qb rfl]
    simp (disch:=omega) only [N,Qp,ltF,gG,UN,Wj,WA,Qe,Qf,Nat.zero_add,Nat.add_zero,Qc,List.append_nil,List.singleton_append,List.cons_append,List.nil_append,QH,Qd (off:=1) hot rfl,Qs,h113,h114,hst,Ve,Qd (off:=0) h.gy.ay rfl,lenR h.gy.ry]
    rfl
  | d+1,k,ix,σ,hd,hk,h=>by
    have hkl:k<l.length:=by omega
    have he:ge l k∈B:=hmem _ (by rw [ZA hkl]; exact List.getElem_mem hkl)
    have hsn:=stNew (lo:=0) (σ:=σ) (ge l k) (Nat.zero_le _)
    have h1:=h.snoc (.mix (cel (ge l k)))
    have hB:(σ++[Row.mix (cel (ge l k))])[σ.length]?=some (.mix (cel (ge l k))):=QE
    have hlk:=lookZ0 h1.gy.g.mp (ge l k)
    rw [h.num he] at hlk
    have hom:=h1.gy.g.omap
    have hot:=h1.gy.g.ot
    simp only [Qe,Qf,Nat.zero_add,Nat.add_zero,Qc,List.append_nil,List.singleton_append,List.cons_append,List.nil_append] at hot
    have hnl:(nums B (l.take k)).length≤100000:=by simp [nums]; omega
    obtain ⟨ix2,σ1,p1,p2,p3⟩:=h1.pushI hnl ((B.idxOf (ge l k):Nat):Int)
    have e1:nums B (l.take k)++[((B.idxOf (ge l k):Nat):Int)]=nums B (l.take (k+1)):=by
      rw [List.take_succ_eq_append_getElem hkl,ZA hkl]; unfold nums; rw [List.map_append]; rfl
    rw [e1] at p3
    obtain ⟨ix',σ',r1,r2⟩:=gr_L4 hx hmem hl hasc d (k+1) ix2 _ (by omega) (by omega) p3
    refine ⟨ix',σ',?_,r2⟩
    have hix:=hx k hkl
    have hld:=ldB hkl σ
    rw [←r1,f85_L4_eq Qb rfl]
    simp (disch:=omega) only [N,Qp,ltT,gG,hix,hld,UT,hsn,UN,UM,Wj,WA,Qe,Qf,Nat.zero_add,Nat.add_zero,Qc,List.append_nil,List.singleton_append,List.cons_append,List.nil_append,QH,Qd (off:=1) hot rfl,UF,hom,UX hB,hlk,VI,p1,p2,add1]
end
end Go.D.StS
end
/- Chapter 22: graph, fifth part: the steps. -/
section
set_option linter.unusedVariables false
set_option linter.unusedSimpArgs false
namespace Go.D.StS
open Go.D.Srt
theorem bld69 (x y z:Int):build PP 69 [(0,.p (.int .i64 x)),(1,.p (.int .i64 y)),(2,.p (.int .i64 z))]=some (.agg (edgD ⟨x,y,z⟩)):=Eq.trans (by kernel_rfl) rfl
theorem bs23_1 (e:Edg) (σ:Qa):buildSlice PP none 23 1 [(0,.agg (edgD e))] σ=some (.p (.sl true 1 (eEdg e)),σ):=Eq.trans (by kernel_rfl) rfl
def rowE (B:List E) (i:Nat) (l:List Edg):List Edg:=l.map fun e=>⟨(i:Int),((B.idxOf (toE e):Nat):Int),e.a⟩
def rawE (M:E→OE) (B:List E):Nat→List E→List Edg
  | _,[]=>[]
  | i,x::l=>rowE B i (L (M x))++rawE M B (i+1) l
theorem rowE_len (B:List E) (i:Nat) (l:List Edg):(rowE B i l).length=l.length:=by simp [rowE]
section
variable {σ0 : Qa} {ext : List DV} {m : List (E × Int)} {B : List E} {n : DV} {is : List Int} {ix : DV} {bx ax y : DV}
theorem gr_L6 {i:Nat} (hi:i≤100000) {q:OE} (hl:(L q).length≤10000) (hmem:∀ e∈L q,toE e∈B) :
    ∀ (d k:Nat) (es:List Edg) (ex:DV) (σ:Qa),(L q).length-k=d→k≤(L q).length→es.length+(L q).length≤1000000+k→GZ σ0 ext m B n is ix es ex bx ax y σ→
    ∃ ex' σ',f85_L6 Qb 0 (.ptr σ0.length 0) (.ptr (σ0.length+1) 0) (.ptr (σ0.length+3) 0) (.ptr (σ0.length+4) 0) (N i) y (N B.length) (N i) (.p (eEs q)) (N (L q).length) (N k) σ =
      f85_L5 Qb 0 (.ptr σ0.length 0) (.ptr (σ0.length+1) 0) (.ptr (σ0.length+3) 0) (.ptr (σ0.length+4) 0) y (N B.length) (N (i+1)) σ'∧
      GZ σ0 ext m B n is ix (es++rowE B i ((L q).drop k)) ex' bx ax y σ'
  | 0,k,es,ex,σ,hd,hk,hs,h=>by
    refine ⟨ex,σ,?_,by rw [List.drop_of_length_le (by omega)]; simpa [rowE] using h⟩
    rw [f85_L6_eq Qb rfl]
    simp (disch:=omega) only [N,Qp,ltF,gG,add1]
  | d+1,k,es,ex,σ,hd,hk,hs,h=>by
    have hkl:k<(L q).length:=by omega
    have e0:(L q).drop k=gE (L q) k::(L q).drop (k+1):=by
      rw [Vh hkl]; exact List.drop_eq_getElem_cons hkl
    have he:toE (gE (L q) k)∈B:=hmem _ (by rw [Vh hkl]; exact List.getElem_mem hkl)
    have h1:=h.snoc (.mix (edgD (gE (L q) k)))
    have hB:(σ++[Row.mix (edgD (gE (L q) k))])[σ.length]?=some (.mix (edgD (gE (L q) k))):=QE
    have hsn:=stN141 (lo:=0) (σ:=σ) (gE (L q) k) (Nat.zero_le _)
    have hlk:=lookZ0 h1.gy.g.mp (toE (gE (L q) k))
    rw [h.num he] at hlk
    have hom:=h1.gy.g.omap
    have hot:=h1.gy.g.ot
    simp only [Qe,Qf,Nat.zero_add,Nat.add_zero,Qc,List.append_nil,List.singleton_append,List.cons_append,List.nil_append] at hot
    obtain ⟨ex2,σ1,p1,p2,p3⟩:=h1.pushE (by omega) ⟨(i:Int),((B.idxOf (toE (gE (L q) k)):Nat):Int),(gE (L q) k).a⟩
    obtain ⟨ex',σ',r1,r2⟩:=gr_L6 hi hl hmem d (k+1) _ ex2 _ (by omega) (by omega) (by simp; omega) p3
    refine ⟨ex',σ',?_,?_⟩
    · rw [←r1,f85_L6_eq Qb rfl]
      simp (disch:=omega) only [N,Qp,ltT,gG,idx138,load141,ld141,zero141,hsn,UN,UM,Wj,Zj,fa141_0,fa141_1,Qe,Qf,Nat.zero_add,Nat.add_zero,Qc,List.append_nil,List.singleton_append,List.cons_append,List.nil_append,Zh,Qd (off:=2) hot rfl,UF,hom,ldTo hB,hlk,QJ,ldAct hB,bld69,bs23_1,p1,p2,add1]
    · rw [e0]
      have e3:es++rowE B i (gE (L q) k::(L q).drop (k+1))=es++[(⟨(i:Int),((B.idxOf (toE (gE (L q) k)):Nat):Int),(gE (L q) k).a⟩:Edg)]++rowE B i ((L q).drop (k+1)):=by simp [rowE]
      rw [e3]; exact r2
end
section
variable {σ0 : Qa} {y0 : DV} {m : List (E × Int)} {B : List E} {n : DV} {is : List Int} {ix : DV} {bx ax y : DV}
theorem gr_L5 {mv:FuncId} {caps:List DV} (M:E→OE) (hB:B.length≤1000) (hM:∀ x∈B,∀ σ:Qa,(∀ j,j<σ0.length→σ[j]?=σ0[j]?)→Qx CC mv (val x::caps) σ=some (.p (eEs (M x)))) (hl:∀ x∈B,(L (M x)).length≤200)
    (hmem:∀ x∈B,∀ e∈L (M x),toE e∈B) :
    ∀ (d i:Nat) (es:List Edg) (ex:DV) (σ:Qa),B.length-i=d→i≤B.length→es.length≤200*i→GZ σ0 [y0,.fn mv caps] m B n is ix es ex bx ax y σ→
    ∃ ex' σ',f85_L5 Qb 0 (.ptr σ0.length 0) (.ptr (σ0.length+1) 0) (.ptr (σ0.length+3) 0) (.ptr (σ0.length+4) 0) y (N B.length) (N i) σ =
      f85_L5 Qb 0 (.ptr σ0.length 0) (.ptr (σ0.length+1) 0) (.ptr (σ0.length+3) 0) (.ptr (σ0.length+4) 0) y (N B.length) (N B.length) σ'∧
      GZ σ0 [y0,.fn mv caps] m B n is ix (es++rawE M B i (B.drop i)) ex' bx ax y σ'
  | 0,i,es,ex,σ,hd,hi,hs,h=>by
    have e:i=B.length:=by omega
    subst e
    exact ⟨ex,σ,rfl,by rw [List.drop_length]; simpa [rawE] using h⟩
  | d+1,i,es,ex,σ,hd,hi,hs,h=>by
    have hil:i<B.length:=by omega
    have hx:ge B i∈B:=by rw [ZA hil]; exact List.getElem_mem hil
    have e0:B.drop i=ge B i::B.drop (i+1):=by rw [ZA hil]; exact List.drop_eq_getElem_cons hil
    obtain ⟨p,hp1,hp2⟩:=h.gy.at hil
    have hsn:=stNew (lo:=0) (σ:=σ) (ge B i) (Nat.zero_le _)
    have h1:=h.snoc (.mix (cel (ge B i)))
    have hB7:(σ++[Row.mix (cel (ge B i))])[σ.length]?=some (.mix (cel (ge B i))):=QE
    have hex:=h1.gy.g.ex
    have hmv:=hM _ hx _ h1.gy.g.low
    have hln:=hl _ hx
    obtain ⟨ex2,σ2,r1,r2⟩:=gr_L6 (i:=i) (by omega) (by omega) (hmem _ hx) _ 0 es ex _ rfl (Nat.zero_le _) (by omega) h1
    rw [List.drop_zero] at r2
    obtain ⟨ex',σ',w1,w2⟩:=gr_L5 M hB hM hl hmem d (i+1) _ ex2 σ2 (by omega) (by omega) (by rw [List.length_append,rowE_len]; omega) r2
    refine ⟨ex',σ',?_,?_⟩
    · rw [←w1,←r1,f85_L5_eq Qb rfl]
      simp (disch:=omega) only [N,Qp,ltT,gG,hp1,hp2,UT,hsn,fa137_1,Qe,Qf,Nat.zero_add,Nat.add_zero,Qc,List.append_nil,List.singleton_append,List.cons_append,List.nil_append,load135,Qd (off:=1) hex rfl,UX hB7,hmv,len138]
      rfl
    · rw [e0,rawE,←List.append_assoc]; exact w2
end
end Go.D.StS
end
/- Equations of functions 124, 145, 154, 155, 164, 156, 157, 165, 166, 167, 158, 159, 160, 161, printed by gen.py. -/
section
set_option linter.unusedVariables false
set_option maxRecDepth 10000
namespace Go.D
open Go.Proofs
noncomputable section
variable (G:Qh) (lo:Nat) {σ:Qa} {r:DV×Qa}
open _root_.Go.D.Code (fstC sndC)
open _root_.Go.D.Ann (left right)
def c124_0:Code:=Qw Tryz.f124
def a124_0:Ann:=(pol 124).ann
def F124 (a b:DV) (σ:Qa):RS:=
 Qo G PP (pol 124) CC lo c124_0 a124_0 (a::b::zn 12 []) σ (finR PP Tryz.f124.results.toList)
theorem F124_eq (G:Qh) (lo:Nat) (a b:DV) (σ:Qa):F124 G lo a b σ =
 (len PP 23 a σ).bind fun K=>
 (convert PP 3 165 K).bind fun g=>
 (Qi CC (DV.fn 122 []) [g] σ).bind fun j=>
 (Qg CC lo (DV.fn 145 []) [a,I0,K,j,b] σ).bind fun r13_1=>
 some ((DV.tuple []),r13_1.2):=by kernel_rfl
theorem F124_call {lo:Nat} {a b:DV} (h:F124 Qb lo a b σ=some r):CC lo 124 [a,b] σ=some r:=
 callL_run Tryz.func124 (by decide +kernel) rfl (by decide +kernel) h
def c145_0:Code:=Qw Tryz.f145
def a145_0:Ann:=(pol 145).ann
def a145_4:Ann:=right (right a145_0)
def a145_5:Ann:=left a145_4
def c145_6:Code:=fstC (fstC (sndC (sndC c145_0)))
def a145_6:Ann:=left a145_5
def c145_33:Code:=sndC (sndC (sndC (sndC (fstC c145_6))))
def a145_33:Ann:=right (right (right (right (left a145_6))))
def c145_45:Code:=sndC (sndC c145_33)
def a145_45:Ann:=right (right a145_33)
def c145_55:Code:=sndC c145_45
def a145_55:Ann:=right a145_45
def f145_L0 (a b c d f g j:DV) (σ:Qa):RS:=
 Qo G PP (pol 145) CC lo (.loop c145_6) a145_5 (a::b::c::d::f::zn 5 (g::j::zn 136 [])) σ
 (Qk 0 a145_4 (finR PP Tryz.f145.results.toList))
def f145_J0 (a b c d f g j k t o u I A E H aa J C x B V ac P y:DV) (σ:Qa):RS:=
 (seqC G PP (pol 145) CC lo c145_33 a145_33 (Qk 1 a145_6 (QY G PP (pol 145) CC lo c145_6 a145_5 (Qk 0 a145_4 (finR PP Tryz.f145.results.toList))))) .normal (a::b::c::d::f::zn 5 (g::j::k::zn 8 (t::o::u::I::A::zn 5 (E::H::zn 5 (aa::J::C::x::B::V::ac::P::y::zn 101 []))))) σ
def f145_J1 (a b c d f g j k q w t o u I A E H aa J C x B V ac P y Q M ba aw bb Y S T am be bp ao bc az bk bv bj bi br bf b8:DV) (σ:Qa):RS:=
 (seqC G PP (pol 145) CC lo c145_45 a145_45 (Qk 1 a145_6 (QY G PP (pol 145) CC lo c145_6 a145_5 (Qk 0 a145_4 (finR PP Tryz.f145.results.toList))))) .normal (a::b::c::d::f::zn 5 (g::j::k::q::w::zn 6 (t::o::u::I::A::zn 5 (E::H::zn 5 (aa::J::C::x::B::V::ac::P::y::Q::M::ba::aw::bb::Y::S::T::am::be::bp::ao::bc::az::bk::bv::bj::bi::br::bf::b8::zn 80 []))))) σ
def f145_J2 (a b c d f g j k q w t o u I A E H aa J C x B V ac P y Q M ba aw bb Y S T am be bp ao bc az bk bv bj bi br bf b8 cb dd bt b9 cv c9 N cm cd bm c8 bz ca:DV) (σ:Qa):RS:=
 (seqC G PP (pol 145) CC lo c145_55 a145_55 (Qk 1 a145_6 (QY G PP (pol 145) CC lo c145_6 a145_5 (Qk 0 a145_4 (finR PP Tryz.f145.results.toList))))) .normal (a::b::c::d::f::zn 5 (g::j::k::q::w::zn 6 (t::o::u::I::A::zn 5 (E::H::zn 5 (aa::J::C::x::B::V::ac::P::y::Q::M::ba::aw::bb::Y::S::T::am::be::bp::ao::bc::az::bk::bv::bj::bi::br::bf::b8::cb::dd::bt::b9::cv::c9::N::cm::cd::bm::c8::bz::ca::zn 67 []))))) σ
def F145 (a b c d f:DV) (σ:Qa):RS:=
 Qo G PP (pol 145) CC lo c145_0 a145_0 (a::b::c::d::f::zn 143 []) σ (finR PP Tryz.f145.results.toList)
theorem f145_J0_eq (G:Qh) (lo:Nat) (a b c d f g j k t o u I A E H aa J C x B V ac P y:DV) (σ:Qa):f145_J0 G lo a b c d f g j k t o u I A E H aa J C x B V ac P y σ =
 (Qg CC lo (DV.fn 157 []) [a,b,c,f] σ).bind fun r52_4=>
 (Ql r52_4.1 0).bind fun S=>
 (Ql r52_4.1 1).bind fun T=>
 (binOp PP .eql 169 T (DV.p (PV.int IntKind.i64 (2)))).bind fun be=>
 Qj be
 (
 (Qg CC lo (DV.fn 158 []) [a,b,c,f] r52_4.2).bind fun r61_5=>
 (binOp PP .sub 3 c I1).bind fun bj=>
 (binOp PP .sub 3 S b).bind fun bf=>
 (binOp PP .sub 3 bj bf).bind fun b8=>
 f145_J1 G lo a b c d f g j k b8 I1 t o u I A E H aa J C x B V ac P y r52_4.1 a b c f r52_4.1 S T T be a b c f r61_5.1 c bj S b bf b8 r61_5.2
 )
 (
 f145_J1 G lo a b c d f g j k S T t o u I A E H aa J C x B V ac P y r52_4.1 a b c f r52_4.1 S T T be Z Z Z Z Z Z Z Z Z Z Z r52_4.2
 ):=by kernel_rfl
theorem f145_J1_eq (G:Qh) (lo:Nat) (a b c d f g j k q w t o u I A E H aa J C x B V ac P y Q M ba aw bb Y S T am be bp ao bc az bk bv bj bi br bf b8:DV) (σ:Qa):f145_J1 G lo a b c d f g j k q w t o u I A E H aa J C x B V ac P y Q M ba aw bb Y S T am be bp ao bc az bk bv bj bi br bf b8 σ =
 G _ g true (some (j,σ)) σ fun bt σ6=>
 (Qt g bt (DV.p (PV.bool false))).bind fun b9=>
 G _ b9 true (some (w,σ6)) σ6 fun c9 σ7=>
 Gp G b9 true (binOp PP .eql 169 c9 I1) σ7 fun N σ8=>
 (Qt b9 N (DV.p (PV.bool false))).bind fun cm=>
 Qj cm
 (
 (Qg CC lo (DV.fn 159 []) [a,b,c,f] σ8).bind fun r80_9=>
 Qj r80_9.1
 (
 some ((DV.tuple []),r80_9.2)
 )
 (
 f145_J2 G lo a b c d f g j k q w t o u I A E H aa J C x B V ac P y Q M ba aw bb Y S T am be bp ao bc az bk bv bj bi br bf b8 g g bt b9 b9 c9 N cm a b c f r80_9.1 r80_9.2
 )
 )
 (
 f145_J2 G lo a b c d f g j k q w t o u I A E H aa J C x B V ac P y Q M ba aw bb Y S T am be bp ao bc az bk bv bj bi br bf b8 g g bt b9 b9 c9 N cm Z Z Z Z Z σ8
 ):=by kernel_rfl
theorem f145_J2_eq (G:Qh) (lo:Nat) (a b c d f g j k q w t o u I A E H aa J C x B V ac P y Q M ba aw bb Y S T am be bp ao bc az bk bv bj bi br bf b8 cb dd bt b9 cv c9 N cm cd bm c8 bz ca:DV) (σ:Qa):f145_J2 G lo a b c d f g j k q w t o u I A E H aa J C x B V ac P y Q M ba aw bb Y S T am be bp ao bc az bk bv bj bi br bf b8 cb dd bt b9 cv c9 N cm cd bm c8 bz ca σ =
 (binOp PP .gtr 3 b I0).bind fun n=>
 G _ n true (some (f,σ)) σ fun bg σ10=>
 G _ n true (some (a,σ10)) σ10 fun bq σ11=>
 G _ n true (some (b,σ11)) σ11 fun bl σ12=>
 Gp G n true (binOp PP .sub 3 bl I1) σ12 fun bn σ13=>
 Gp G n true (indexAddr PP 23 bq bn) σ13 fun cr σ14=>
 Gp G n true (load PP 69 cr σ14) σ14 fun ch σ15=>
 G _ n true (some (a,σ15)) σ15 fun cn σ16=>
 G _ n true (some (q,σ16)) σ16 fun cu σ17=>
 Gp G n true (indexAddr PP 23 cn cu) σ17 fun cg σ18=>
 Gp G n true (load PP 69 cg σ18) σ18 fun c7 σ19=>
 Gp G n true (Qi CC bg [ch,c7] σ19) σ19 fun ci σ20=>
 Gp G n true (binOp PP .lss 3 ci I0) σ20 fun cj σ21=>
 Gp G n true (unOp .not cj) σ21 fun cc σ22=>
 (Qt n cc (DV.p (PV.bool false))).bind fun bu=>
 Qj bu
 (
 (Qg CC lo (DV.fn 160 []) [a,b,c,q,f] σ22).bind fun r103_23=>
 f145_L0 G lo a r103_23.1 c d f g j r103_23.2
 )
 (
 (Qg CC lo (DV.fn 161 []) [a,b,c,q,f] σ22).bind fun r111_24=>
 (Ql r111_24.1 0).bind fun ai=>
 (Ql r111_24.1 1).bind fun bw=>
 (binOp PP .sub 3 ai b).bind fun ct=>
 (binOp PP .sub 3 c ai).bind fun ce=>
 (binOp PP .quo 3 k (DV.p (PV.int IntKind.i64 (8)))).bind fun ck=>
 (binOp PP .lss 3 ct ce).bind fun co=>
 Qj co
 (
 (binOp PP .geq 3 ct ck).bind fun da=>
 (Qg CC lo (DV.fn 145 []) [a,b,ai,d,f] r111_24.2).bind fun r134_25=>
 (binOp PP .add 3 ai I1).bind fun de=>
 f145_L0 G lo a de c d f da bw r134_25.2
 )
 (
 (binOp PP .geq 3 ce ck).bind fun cw=>
 (binOp PP .add 3 ai I1).bind fun dm=>
 (Qg CC lo (DV.fn 145 []) [a,dm,c,d,f] r111_24.2).bind fun r146_26=>
 f145_L0 G lo a b ai d f cw bw r146_26.2
 )
 ):=by kernel_rfl
theorem f145_L0_eqN (G:Qh) (hG:Qq G) (lo:Nat) (a b c d f g j:DV) (σ:Qa):f145_L0 G lo a b c d f g j σ =
 (binOp PP .sub 3 c b).bind fun u=>
 (binOp PP .leq 3 u (DV.p (PV.int IntKind.i64 (12)))).bind fun A=>
 Qj A
 (
 (Qg CC lo (DV.fn 154 []) [a,b,c,f] σ).bind fun r30_1=>
 some ((DV.tuple []),r30_1.2)
 )
 (
 (binOp PP .eql 3 d I0).bind fun H=>
 Qj H
 (
 (Qg CC lo (DV.fn 155 []) [a,b,c,f] σ).bind fun r37_2=>
 some ((DV.tuple []),r37_2.2)
 )
 (
 (unOp .not g).bind fun J=>
 Qj J
 (
 (Qg CC lo (DV.fn 156 []) [a,b,c,f] σ).bind fun r44_3=>
 (binOp PP .sub 3 d I1).bind fun y=>
 (Qg CC lo (DV.fn 157 []) [a,b,c,f] r44_3.2).bind fun r52_4=>
 (Ql r52_4.1 0).bind fun S=>
 (Ql r52_4.1 1).bind fun T=>
 (binOp PP .eql 169 T (DV.p (PV.int IntKind.i64 (2)))).bind fun be=>
 Qj be
 (
 (Qg CC lo (DV.fn 158 []) [a,b,c,f] r52_4.2).bind fun r61_5=>
 (binOp PP .sub 3 c I1).bind fun bj=>
 (binOp PP .sub 3 S b).bind fun bf=>
 (binOp PP .sub 3 bj bf).bind fun b8=>
 G _ g true (some (j,r61_5.2)) r61_5.2 fun bt σ6=>
 (Qt g bt (DV.p (PV.bool false))).bind fun b9=>
 G _ b9 true (some (I1,σ6)) σ6 fun c9 σ7=>
 Gp G b9 true (binOp PP .eql 169 c9 I1) σ7 fun N σ8=>
 (Qt b9 N (DV.p (PV.bool false))).bind fun cm=>
 Qj cm
 (
 (Qg CC lo (DV.fn 159 []) [a,b,c,f] σ8).bind fun r80_9=>
 Qj r80_9.1
 (
 some ((DV.tuple []),r80_9.2)
 )
 (
 (binOp PP .gtr 3 b I0).bind fun n=>
 G _ n true (some (f,r80_9.2)) r80_9.2 fun bg σ10=>
 G _ n true (some (a,σ10)) σ10 fun bq σ11=>
 G _ n true (some (b,σ11)) σ11 fun bl σ12=>
 Gp G n true (binOp PP .sub 3 bl I1) σ12 fun bn σ13=>
 Gp G n true (indexAddr PP 23 bq bn) σ13 fun cr σ14=>
 Gp G n true (load PP 69 cr σ14) σ14 fun ch σ15=>
 G _ n true (some (a,σ15)) σ15 fun cn σ16=>
 G _ n true (some (b8,σ16)) σ16 fun cu σ17=>
 Gp G n true (indexAddr PP 23 cn cu) σ17 fun cg σ18=>
 Gp G n true (load PP 69 cg σ18) σ18 fun c7 σ19=>
 Gp G n true (Qi CC bg [ch,c7] σ19) σ19 fun ci σ20=>
 Gp G n true (binOp PP .lss 3 ci I0) σ20 fun cj σ21=>
 Gp G n true (unOp .not cj) σ21 fun cc σ22=>
 (Qt n cc (DV.p (PV.bool false))).bind fun bu=>
 Qj bu
 (
 (Qg CC lo (DV.fn 160 []) [a,b,c,b8,f] σ22).bind fun r103_23=>
 f145_L0 G lo a r103_23.1 c y f g j r103_23.2
 )
 (
 (Qg CC lo (DV.fn 161 []) [a,b,c,b8,f] σ22).bind fun r111_24=>
 (Ql r111_24.1 0).bind fun ai=>
 (Ql r111_24.1 1).bind fun bw=>
 (binOp PP .sub 3 ai b).bind fun ct=>
 (binOp PP .sub 3 c ai).bind fun ce=>
 (binOp PP .quo 3 u (DV.p (PV.int IntKind.i64 (8)))).bind fun ck=>
 (binOp PP .lss 3 ct ce).bind fun co=>
 Qj co
 (
 (binOp PP .geq 3 ct ck).bind fun da=>
 (Qg CC lo (DV.fn 145 []) [a,b,ai,y,f] r111_24.2).bind fun r134_25=>
 (binOp PP .add 3 ai I1).bind fun de=>
 f145_L0 G lo a de c y f da bw r134_25.2
 )
 (
 (binOp PP .geq 3 ce ck).bind fun cw=>
 (binOp PP .add 3 ai I1).bind fun dm=>
 (Qg CC lo (DV.fn 145 []) [a,dm,c,y,f] r111_24.2).bind fun r146_26=>
 f145_L0 G lo a b ai y f cw bw r146_26.2
 )
 )
 )
 )
 (
 (binOp PP .gtr 3 b I0).bind fun n=>
 G _ n true (some (f,σ8)) σ8 fun bg σ27=>
 G _ n true (some (a,σ27)) σ27 fun bq σ28=>
 G _ n true (some (b,σ28)) σ28 fun bl σ29=>
 Gp G n true (binOp PP .sub 3 bl I1) σ29 fun bn σ30=>
 Gp G n true (indexAddr PP 23 bq bn) σ30 fun cr σ31=>
 Gp G n true (load PP 69 cr σ31) σ31 fun ch σ32=>
 G _ n true (some (a,σ32)) σ32 fun cn σ33=>
 G _ n true (some (b8,σ33)) σ33 fun cu σ34=>
 Gp G n true (indexAddr PP 23 cn cu) σ34 fun cg σ35=>
 Gp G n true (load PP 69 cg σ35) σ35 fun c7 σ36=>
 Gp G n true (Qi CC bg [ch,c7] σ36) σ36 fun ci σ37=>
 Gp G n true (binOp PP .lss 3 ci I0) σ37 fun cj σ38=>
 Gp G n true (unOp .not cj) σ38 fun cc σ39=>
 (Qt n cc (DV.p (PV.bool false))).bind fun bu=>
 Qj bu
 (
 (Qg CC lo (DV.fn 160 []) [a,b,c,b8,f] σ39).bind fun r103_40=>
 f145_L0 G lo a r103_40.1 c y f g j r103_40.2
 )
 (
 (Qg CC lo (DV.fn 161 []) [a,b,c,b8,f] σ39).bind fun r111_41=>
 (Ql r111_41.1 0).bind fun ai=>
 (Ql r111_41.1 1).bind fun bw=>
 (binOp PP .sub 3 ai b).bind fun ct=>
 (binOp PP .sub 3 c ai).bind fun ce=>
 (binOp PP .quo 3 u (DV.p (PV.int IntKind.i64 (8)))).bind fun ck=>
 (binOp PP .lss 3 ct ce).bind fun co=>
 Qj co
 (
 (binOp PP .geq 3 ct ck).bind fun da=>
 (Qg CC lo (DV.fn 145 []) [a,b,ai,y,f] r111_41.2).bind fun r134_42=>
 (binOp PP .add 3 ai I1).bind fun de=>
 f145_L0 G lo a de c y f da bw r134_42.2
 )
 (
 (binOp PP .geq 3 ce ck).bind fun cw=>
 (binOp PP .add 3 ai I1).bind fun dm=>
 (Qg CC lo (DV.fn 145 []) [a,dm,c,y,f] r111_41.2).bind fun r146_43=>
 f145_L0 G lo a b ai y f cw bw r146_43.2
 )
 )
 )
 )
 (
 G _ g true (some (j,r52_4.2)) r52_4.2 fun bt σ44=>
 (Qt g bt (DV.p (PV.bool false))).bind fun b9=>
 G _ b9 true (some (T,σ44)) σ44 fun c9 σ45=>
 Gp G b9 true (binOp PP .eql 169 c9 I1) σ45 fun N σ46=>
 (Qt b9 N (DV.p (PV.bool false))).bind fun cm=>
 Qj cm
 (
 (Qg CC lo (DV.fn 159 []) [a,b,c,f] σ46).bind fun r80_47=>
 Qj r80_47.1
 (
 some ((DV.tuple []),r80_47.2)
 )
 (
 (binOp PP .gtr 3 b I0).bind fun n=>
 G _ n true (some (f,r80_47.2)) r80_47.2 fun bg σ48=>
 G _ n true (some (a,σ48)) σ48 fun bq σ49=>
 G _ n true (some (b,σ49)) σ49 fun bl σ50=>
 Gp G n true (binOp PP .sub 3 bl I1) σ50 fun bn σ51=>
 Gp G n true (indexAddr PP 23 bq bn) σ51 fun cr σ52=>
 Gp G n true (load PP 69 cr σ52) σ52 fun ch σ53=>
 G _ n true (some (a,σ53)) σ53 fun cn σ54=>
 G _ n true (some (S,σ54)) σ54 fun cu σ55=>
 Gp G n true (indexAddr PP 23 cn cu) σ55 fun cg σ56=>
 Gp G n true (load PP 69 cg σ56) σ56 fun c7 σ57=>
 Gp G n true (Qi CC bg [ch,c7] σ57) σ57 fun ci σ58=>
 Gp G n true (binOp PP .lss 3 ci I0) σ58 fun cj σ59=>
 Gp G n true (unOp .not cj) σ59 fun cc σ60=>
 (Qt n cc (DV.p (PV.bool false))).bind fun bu=>
 Qj bu
 (
 (Qg CC lo (DV.fn 160 []) [a,b,c,S,f] σ60).bind fun r103_61=>
 f145_L0 G lo a r103_61.1 c y f g j r103_61.2
 )
 (
 (Qg CC lo (DV.fn 161 []) [a,b,c,S,f] σ60).bind fun r111_62=>
 (Ql r111_62.1 0).bind fun ai=>
 (Ql r111_62.1 1).bind fun bw=>
 (binOp PP .sub 3 ai b).bind fun ct=>
 (binOp PP .sub 3 c ai).bind fun ce=>
 (binOp PP .quo 3 u (DV.p (PV.int IntKind.i64 (8)))).bind fun ck=>
 (binOp PP .lss 3 ct ce).bind fun co=>
 Qj co
 (
 (binOp PP .geq 3 ct ck).bind fun da=>
 (Qg CC lo (DV.fn 145 []) [a,b,ai,y,f] r111_62.2).bind fun r134_63=>
 (binOp PP .add 3 ai I1).bind fun de=>
 f145_L0 G lo a de c y f da bw r134_63.2
 )
 (
 (binOp PP .geq 3 ce ck).bind fun cw=>
 (binOp PP .add 3 ai I1).bind fun dm=>
 (Qg CC lo (DV.fn 145 []) [a,dm,c,y,f] r111_62.2).bind fun r146_64=>
 f145_L0 G lo a b ai y f cw bw r146_64.2
 )
 )
 )
 )
 (
 (binOp PP .gtr 3 b I0).bind fun n=>
 G _ n true (some (f,σ46)) σ46 fun bg σ65=>
 G _ n true (some (a,σ65)) σ65 fun bq σ66=>
 G _ n true (some (b,σ66)) σ66 fun bl σ67=>
 Gp G n true (binOp PP .sub 3 bl I1) σ67 fun bn σ68=>
 Gp G n true (indexAddr PP 23 bq bn) σ68 fun cr σ69=>
 Gp G n true (load PP 69 cr σ69) σ69 fun ch σ70=>
 G _ n true (some (a,σ70)) σ70 fun cn σ71=>
 G _ n true (some (S,σ71)) σ71 fun cu σ72=>
 Gp G n true (indexAddr PP 23 cn cu) σ72 fun cg σ73=>
 Gp G n true (load PP 69 cg σ73) σ73 fun c7 σ74=>
 Gp G n true (Qi CC bg [ch,c7] σ74) σ74 fun ci σ75=>
 Gp G n true (binOp PP .lss 3 ci I0) σ75 fun cj σ76=>
 Gp G n true (unOp .not cj) σ76 fun cc σ77=>
 (Qt n cc (DV.p (PV.bool false))).bind fun bu=>
 Qj bu
 (
 (Qg CC lo (DV.fn 160 []) [a,b,c,S,f] σ77).bind fun r103_78=>
 f145_L0 G lo a r103_78.1 c y f g j r103_78.2
 )
 (
 (Qg CC lo (DV.fn 161 []) [a,b,c,S,f] σ77).bind fun r111_79=>
 (Ql r111_79.1 0).bind fun ai=>
 (Ql r111_79.1 1).bind fun bw=>
 (binOp PP .sub 3 ai b).bind fun ct=>
 (binOp PP .sub 3 c ai).bind fun ce=>
 (binOp PP .quo 3 u (DV.p (PV.int IntKind.i64 (8)))).bind fun ck=>
 (binOp PP .lss 3 ct ce).bind fun co=>
 Qj co
 (
 (binOp PP .geq 3 ct ck).bind fun da=>
 (Qg CC lo (DV.fn 145 []) [a,b,ai,y,f] r111_79.2).bind fun r134_80=>
 (binOp PP .add 3 ai I1).bind fun de=>
 f145_L0 G lo a de c y f da bw r134_80.2
 )
 (
 (binOp PP .geq 3 ce ck).bind fun cw=>
 (binOp PP .add 3 ai I1).bind fun dm=>
 (Qg CC lo (DV.fn 145 []) [a,dm,c,y,f] r111_79.2).bind fun r146_81=>
 f145_L0 G lo a b ai y f cw bw r146_81.2
 )
 )
 )
 )
 )
 (
 (Qg CC lo (DV.fn 157 []) [a,b,c,f] σ).bind fun r52_82=>
 (Ql r52_82.1 0).bind fun S=>
 (Ql r52_82.1 1).bind fun T=>
 (binOp PP .eql 169 T (DV.p (PV.int IntKind.i64 (2)))).bind fun be=>
 Qj be
 (
 (Qg CC lo (DV.fn 158 []) [a,b,c,f] r52_82.2).bind fun r61_83=>
 (binOp PP .sub 3 c I1).bind fun bj=>
 (binOp PP .sub 3 S b).bind fun bf=>
 (binOp PP .sub 3 bj bf).bind fun b8=>
 G _ g true (some (j,r61_83.2)) r61_83.2 fun bt σ84=>
 (Qt g bt (DV.p (PV.bool false))).bind fun b9=>
 G _ b9 true (some (I1,σ84)) σ84 fun c9 σ85=>
 Gp G b9 true (binOp PP .eql 169 c9 I1) σ85 fun N σ86=>
 (Qt b9 N (DV.p (PV.bool false))).bind fun cm=>
 Qj cm
 (
 (Qg CC lo (DV.fn 159 []) [a,b,c,f] σ86).bind fun r80_87=>
 Qj r80_87.1
 (
 some ((DV.tuple []),r80_87.2)
 )
 (
 (binOp PP .gtr 3 b I0).bind fun n=>
 G _ n true (some (f,r80_87.2)) r80_87.2 fun bg σ88=>
 G _ n true (some (a,σ88)) σ88 fun bq σ89=>
 G _ n true (some (b,σ89)) σ89 fun bl σ90=>
 Gp G n true (binOp PP .sub 3 bl I1) σ90 fun bn σ91=>
 Gp G n true (indexAddr PP 23 bq bn) σ91 fun cr σ92=>
 Gp G n true (load PP 69 cr σ92) σ92 fun ch σ93=>
 G _ n true (some (a,σ93)) σ93 fun cn σ94=>
 G _ n true (some (b8,σ94)) σ94 fun cu σ95=>
 Gp G n true (indexAddr PP 23 cn cu) σ95 fun cg σ96=>
 Gp G n true (load PP 69 cg σ96) σ96 fun c7 σ97=>
 Gp G n true (Qi CC bg [ch,c7] σ97) σ97 fun ci σ98=>
 Gp G n true (binOp PP .lss 3 ci I0) σ98 fun cj σ99=>
 Gp G n true (unOp .not cj) σ99 fun cc σ100=>
 (Qt n cc (DV.p (PV.bool false))).bind fun bu=>
 Qj bu
 (
 (Qg CC lo (DV.fn 160 []) [a,b,c,b8,f] σ100).bind fun r103_101=>
 f145_L0 G lo a r103_101.1 c d f g j r103_101.2
 )
 (
 (Qg CC lo (DV.fn 161 []) [a,b,c,b8,f] σ100).bind fun r111_102=>
 (Ql r111_102.1 0).bind fun ai=>
 (Ql r111_102.1 1).bind fun bw=>
 (binOp PP .sub 3 ai b).bind fun ct=>
 (binOp PP .sub 3 c ai).bind fun ce=>
 (binOp PP .quo 3 u (DV.p (PV.int IntKind.i64 (8)))).bind fun ck=>
 (binOp PP .lss 3 ct ce).bind fun co=>
 Qj co
 (
 (binOp PP .geq 3 ct ck).bind fun da=>
 (Qg CC lo (DV.fn 145 []) [a,b,ai,d,f] r111_102.2).bind fun r134_103=>
 (binOp PP .add 3 ai I1).bind fun de=>
 f145_L0 G lo a de c d f da bw r134_103.2
 )
 (
 (binOp PP .geq 3 ce ck).bind fun cw=>
 (binOp PP .add 3 ai I1).bind fun dm=>
 (Qg CC lo (DV.fn 145 []) [a,dm,c,d,f] r111_102.2).bind fun r146_104=>
 f145_L0 G lo a b ai d f cw bw r146_104.2
 )
 )
 )
 )
 (
 (binOp PP .gtr 3 b I0).bind fun n=>
 G _ n true (some (f,σ86)) σ86 fun bg σ105=>
 G _ n true (some (a,σ105)) σ105 fun bq σ106=>
 G _ n true (some (b,σ106)) σ106 fun bl σ107=>
 Gp G n true (binOp PP .sub 3 bl I1) σ107 fun bn σ108=>
 Gp G n true (indexAddr PP 23 bq bn) σ108 fun cr σ109=>
 Gp G n true (load PP 69 cr σ109) σ109 fun ch σ110=>
 G _ n true (some (a,σ110)) σ110 fun cn σ111=>
 G _ n true (some (b8,σ111)) σ111 fun cu σ112=>
 Gp G n true (indexAddr PP 23 cn cu) σ112 fun cg σ113=>
 Gp G n true (load PP 69 cg σ113) σ113 fun c7 σ114=>
 Gp G n true (Qi CC bg [ch,c7] σ114) σ114 fun ci σ115=>
 Gp G n true (binOp PP .lss 3 ci I0) σ115 fun cj σ116=>
 Gp G n true (unOp .not cj) σ116 fun cc σ117=>
 (Qt n cc (DV.p (PV.bool false))).bind fun bu=>
 Qj bu
 (
 (Qg CC lo (DV.fn 160 []) [a,b,c,b8,f] σ117).bind fun r103_118=>
 f145_L0 G lo a r103_118.1 c d f g j r103_118.2
 )
 (
 (Qg CC lo (DV.fn 161 []) [a,b,c,b8,f] σ117).bind fun r111_119=>
 (Ql r111_119.1 0).bind fun ai=>
 (Ql r111_119.1 1).bind fun bw=>
 (binOp PP .sub 3 ai b).bind fun ct=>
 (binOp PP .sub 3 c ai).bind fun ce=>
 (binOp PP .quo 3 u (DV.p (PV.int IntKind.i64 (8)))).bind fun ck=>
 (binOp PP .lss 3 ct ce).bind fun co=>
 Qj co
 (
 (binOp PP .geq 3 ct ck).bind fun da=>
 (Qg CC lo (DV.fn 145 []) [a,b,ai,d,f] r111_119.2).bind fun r134_120=>
 (binOp PP .add 3 ai I1).bind fun de=>
 f145_L0 G lo a de c d f da bw r134_120.2
 )
 (
 (binOp PP .geq 3 ce ck).bind fun cw=>
 (binOp PP .add 3 ai I1).bind fun dm=>
 (Qg CC lo (DV.fn 145 []) [a,dm,c,d,f] r111_119.2).bind fun r146_121=>
 f145_L0 G lo a b ai d f cw bw r146_121.2
 )
 )
 )
 )
 (
 G _ g true (some (j,r52_82.2)) r52_82.2 fun bt σ122=>
 (Qt g bt (DV.p (PV.bool false))).bind fun b9=>
 G _ b9 true (some (T,σ122)) σ122 fun c9 σ123=>
 Gp G b9 true (binOp PP .eql 169 c9 I1) σ123 fun N σ124=>
 (Qt b9 N (DV.p (PV.bool false))).bind fun cm=>
 Qj cm
 (
 (Qg CC lo (DV.fn 159 []) [a,b,c,f] σ124).bind fun r80_125=>
 Qj r80_125.1
 (
 some ((DV.tuple []),r80_125.2)
 )
 (
 (binOp PP .gtr 3 b I0).bind fun n=>
 G _ n true (some (f,r80_125.2)) r80_125.2 fun bg σ126=>
 G _ n true (some (a,σ126)) σ126 fun bq σ127=>
 G _ n true (some (b,σ127)) σ127 fun bl σ128=>
 Gp G n true (binOp PP .sub 3 bl I1) σ128 fun bn σ129=>
 Gp G n true (indexAddr PP 23 bq bn) σ129 fun cr σ130=>
 Gp G n true (load PP 69 cr σ130) σ130 fun ch σ131=>
 G _ n true (some (a,σ131)) σ131 fun cn σ132=>
 G _ n true (some (S,σ132)) σ132 fun cu σ133=>
 Gp G n true (indexAddr PP 23 cn cu) σ133 fun cg σ134=>
 Gp G n true (load PP 69 cg σ134) σ134 fun c7 σ135=>
 Gp G n true (Qi CC bg [ch,c7] σ135) σ135 fun ci σ136=>
 Gp G n true (binOp PP .lss 3 ci I0) σ136 fun cj σ137=>
 Gp G n true (unOp .not cj) σ137 fun cc σ138=>
 (Qt n cc (DV.p (PV.bool false))).bind fun bu=>
 Qj bu
 (
 (Qg CC lo (DV.fn 160 []) [a,b,c,S,f] σ138).bind fun r103_139=>
 f145_L0 G lo a r103_139.1 c d f g j r103_139.2
 )
 (
 (Qg CC lo (DV.fn 161 []) [a,b,c,S,f] σ138).bind fun r111_140=>
 (Ql r111_140.1 0).bind fun ai=>
 (Ql r111_140.1 1).bind fun bw=>
 (binOp PP .sub 3 ai b).bind fun ct=>
 (binOp PP .sub 3 c ai).bind fun ce=>
 (binOp PP .quo 3 u (DV.p (PV.int IntKind.i64 (8)))).bind fun ck=>
 (binOp PP .lss 3 ct ce).bind fun co=>
 Qj co
 (
 (binOp PP .geq 3 ct ck).bind fun da=>
 (Qg CC lo (DV.fn 145 []) [a,b,ai,d,f] r111_140.2).bind fun r134_141=>
 (binOp PP .add 3 ai I1).bind fun de=>
 f145_L0 G lo a de c d f da bw r134_141.2
 )
 (
 (binOp PP .geq 3 ce ck).bind fun cw=>
 (binOp PP .add 3 ai I1).bind fun dm=>
 (Qg CC lo (DV.fn 145 []) [a,dm,c,d,f] r111_140.2).bind fun r146_142=>
 f145_L0 G lo a b ai d f cw bw r146_142.2
 )
 )
 )
 )
 (
 (binOp PP .gtr 3 b I0).bind fun n=>
 G _ n true (some (f,σ124)) σ124 fun bg σ143=>
 G _ n true (some (a,σ143)) σ143 fun bq σ144=>
 G _ n true (some (b,σ144)) σ144 fun bl σ145=>
 Gp G n true (binOp PP .sub 3 bl I1) σ145 fun bn σ146=>
 Gp G n true (indexAddr PP 23 bq bn) σ146 fun cr σ147=>
 Gp G n true (load PP 69 cr σ147) σ147 fun ch σ148=>
 G _ n true (some (a,σ148)) σ148 fun cn σ149=>
 G _ n true (some (S,σ149)) σ149 fun cu σ150=>
 Gp G n true (indexAddr PP 23 cn cu) σ150 fun cg σ151=>
 Gp G n true (load PP 69 cg σ151) σ151 fun c7 σ152=>
 Gp G n true (Qi CC bg [ch,c7] σ152) σ152 fun ci σ153=>
 Gp G n true (binOp PP .lss 3 ci I0) σ153 fun cj σ154=>
 Gp G n true (unOp .not cj) σ154 fun cc σ155=>
 (Qt n cc (DV.p (PV.bool false))).bind fun bu=>
 Qj bu
 (
 (Qg CC lo (DV.fn 160 []) [a,b,c,S,f] σ155).bind fun r103_156=>
 f145_L0 G lo a r103_156.1 c d f g j r103_156.2
 )
 (
 (Qg CC lo (DV.fn 161 []) [a,b,c,S,f] σ155).bind fun r111_157=>
 (Ql r111_157.1 0).bind fun ai=>
 (Ql r111_157.1 1).bind fun bw=>
 (binOp PP .sub 3 ai b).bind fun ct=>
 (binOp PP .sub 3 c ai).bind fun ce=>
 (binOp PP .quo 3 u (DV.p (PV.int IntKind.i64 (8)))).bind fun ck=>
 (binOp PP .lss 3 ct ce).bind fun co=>
 Qj co
 (
 (binOp PP .geq 3 ct ck).bind fun da=>
 (Qg CC lo (DV.fn 145 []) [a,b,ai,d,f] r111_157.2).bind fun r134_158=>
 (binOp PP .add 3 ai I1).bind fun de=>
 f145_L0 G lo a de c d f da bw r134_158.2
 )
 (
 (binOp PP .geq 3 ce ck).bind fun cw=>
 (binOp PP .add 3 ai I1).bind fun dm=>
 (Qg CC lo (DV.fn 145 []) [a,dm,c,d,f] r111_157.2).bind fun r146_159=>
 f145_L0 G lo a b ai d f cw bw r146_159.2
 )
 )
 )
 )
 )
 )
 ):=(Qm G hG).trans (by kernel_rfl)
theorem f145_L0_eq (G:Qh) (hG:Qq G) (lo:Nat) (a b c d f g j:DV) (σ:Qa):f145_L0 G lo a b c d f g j σ =
 (binOp PP .sub 3 c b).bind fun u=>
 (binOp PP .leq 3 u (DV.p (PV.int IntKind.i64 (12)))).bind fun A=>
 Qj A
 (
 (Qg CC lo (DV.fn 154 []) [a,b,c,f] σ).bind fun r30_1=>
 some ((DV.tuple []),r30_1.2)
 )
 (
 (binOp PP .eql 3 d I0).bind fun H=>
 Qj H
 (
 (Qg CC lo (DV.fn 155 []) [a,b,c,f] σ).bind fun r37_2=>
 some ((DV.tuple []),r37_2.2)
 )
 (
 (unOp .not g).bind fun J=>
 Qj J
 (
 (Qg CC lo (DV.fn 156 []) [a,b,c,f] σ).bind fun r44_3=>
 (binOp PP .sub 3 d I1).bind fun y=>
 f145_J0 G lo a b c y f g j u c b u u A d H g J a b c f r44_3.1 d y r44_3.2
 )
 (
 f145_J0 G lo a b c d f g j u c b u u A d H g J Z Z Z Z Z Z Z σ
 )
 )
 ):=(f145_L0_eqN G hG lo a b c d f g j σ).trans (by simp only [f145_J0_eq,f145_J1_eq,f145_J2_eq])
theorem F145_eq (G:Qh) (lo:Nat) (a b c d f:DV) (σ:Qa):F145 G lo a b c d f σ =
 f145_L0 G lo a b c d f (DV.p (PV.bool true)) (DV.p (PV.bool true)) σ:=by kernel_rfl
theorem F145_call {lo:Nat} {a b c d f:DV} (h:F145 Qb lo a b c d f σ=some r):CC lo 145 [a,b,c,d,f] σ=some r:=
 callL_run Tryz.func145 (by decide +kernel) rfl (by decide +kernel) h
def c154_0:Code:=Qw Tryz.f154
def a154_0:Ann:=(pol 154).ann
def a154_2:Ann:=right a154_0
def a154_3:Ann:=left a154_2
def c154_4:Code:=fstC (fstC (sndC c154_0))
def a154_11:Ann:=left (right (left a154_3))
def a154_14:Ann:=right (left a154_11)
def a154_15:Ann:=left a154_14
def c154_16:Code:=fstC (fstC (sndC (fstC (fstC (sndC c154_4)))))
def c154_26:Code:=sndC (sndC c154_4)
def a154_26:Ann:=right (right (left a154_3))
def f154_L0 (a b c d l:DV) (σ:Qa):RS:=
 Qo G PP (pol 154) CC lo (.loop c154_4) a154_3 (a::b::c::d::Z::Z::Z::Z::l::zn 44 []) σ
 (Qk 0 a154_2 (finR PP Tryz.f154.results.toList))
def f154_L1 (a b c d l i:DV) (σ:Qa):RS:=
 Qo G PP (pol 154) CC lo (.loop c154_16) a154_15 (a::b::c::d::Z::Z::Z::Z::l::i::zn 43 []) σ
 (Qk 2 a154_14 (Qk 1 a154_11 (seqC G PP (pol 154) CC lo c154_26 a154_26 (QY G PP (pol 154) CC lo c154_4 a154_3 (Qk 0 a154_2 (finR PP Tryz.f154.results.toList))))))
def F154 (a b c d:DV) (σ:Qa):RS:=
 Qo G PP (pol 154) CC lo c154_0 a154_0 (a::b::c::d::zn 49 []) σ (finR PP Tryz.f154.results.toList)
theorem f154_L0_eq (G:Qh) (hG:Qq G) (lo:Nat) (a b c d l:DV) (σ:Qa):f154_L0 G lo a b c d l σ =
 (binOp PP .lss 3 l c).bind fun w=>
 Qj w
 (
 f154_L1 G lo a b c d l l σ
 )
 (
 some ((DV.tuple []),σ)
 ):=(Qm G hG).trans (by kernel_rfl)
theorem f154_L1_eq (G:Qh) (hG:Qq G) (lo:Nat) (a b c d l i:DV) (σ:Qa):f154_L1 G lo a b c d l i σ =
 (binOp PP .gtr 3 i b).bind fun L=>
 G _ L true (some (d,σ)) σ fun o σ1=>
 G _ L true (some (a,σ1)) σ1 fun u σ2=>
 G _ L true (some (i,σ2)) σ2 fun I σ3=>
 Gp G L true (indexAddr PP 23 u I) σ3 fun A σ4=>
 Gp G L true (load PP 69 A σ4) σ4 fun ah σ5=>
 G _ L true (some (a,σ5)) σ5 fun W σ6=>
 G _ L true (some (i,σ6)) σ6 fun au σ7=>
 Gp G L true (binOp PP .sub 3 au I1) σ7 fun af σ8=>
 Gp G L true (indexAddr PP 23 W af) σ8 fun ak σ9=>
 Gp G L true (load PP 69 ak σ9) σ9 fun E σ10=>
 Gp G L true (Qi CC o [ah,E] σ10) σ10 fun H σ11=>
 Gp G L true (binOp PP .lss 3 H I0) σ11 fun ae σ12=>
 (Qt L ae (DV.p (PV.bool false))).bind fun X=>
 Qj X
 (
 (binOp PP .sub 3 i I1).bind fun x=>
 (binOp PP .sub 3 i I1).bind fun ac=>
 (indexAddr PP 23 a ac).bind fun P=>
 (load PP 69 P σ12).bind fun y=>
 (indexAddr PP 23 a i).bind fun ba=>
 (load PP 69 ba σ12).bind fun aw=>
 (indexAddr PP 23 a i).bind fun bb=>
 (store PP lo 69 bb y σ12).bind fun σ13=>
 (indexAddr PP 23 a x).bind fun Y=>
 (store PP lo 69 Y aw σ13).bind fun σ14=>
 (binOp PP .sub 3 i I1).bind fun aj=>
 f154_L1 G lo a b c d l aj σ14
 )
 (
 (binOp PP .add 3 l I1).bind fun U=>
 f154_L0 G lo a b c d U σ12
 ):=(Qm G hG).trans (by kernel_rfl)
theorem F154_eq (G:Qh) (lo:Nat) (a b c d:DV) (σ:Qa):F154 G lo a b c d σ =
 (binOp PP .add 3 b I1).bind fun j=>
 f154_L0 G lo a b c d j σ:=by kernel_rfl
theorem F154_call {lo:Nat} {a b c d:DV} (h:F154 Qb lo a b c d σ=some r):CC lo 154 [a,b,c,d] σ=some r:=
 callL_run Tryz.func154 (by decide +kernel) rfl (by decide +kernel) h
def c155_0:Code:=Qw Tryz.f155
def a155_0:Ann:=(pol 155).ann
def a155_9:Ann:=right (left (right (right (right a155_0))))
def a155_10:Ann:=left a155_9
def c155_11:Code:=fstC (fstC (sndC (fstC (sndC (sndC (sndC c155_0))))))
def c155_21:Code:=sndC (sndC (sndC (sndC c155_0)))
def a155_21:Ann:=right (right (right (right a155_0)))
def a155_23:Ann:=right a155_21
def a155_24:Ann:=left a155_23
def c155_25:Code:=fstC (fstC (sndC c155_21))
def f155_L0 (a d l i g j:DV) (σ:Qa):RS:=
 Qo G PP (pol 155) CC lo (.loop c155_11) a155_10 (a::Z::Z::d::Z::Z::Z::Z::l::i::g::j::zn 48 []) σ
 (Qk 0 a155_9 (seqC G PP (pol 155) CC lo c155_21 a155_21 (finR PP Tryz.f155.results.toList)))
def f155_L1 (a d l i k:DV) (σ:Qa):RS:=
 Qo G PP (pol 155) CC lo (.loop c155_25) a155_24 (a::Z::Z::d::Z::Z::Z::Z::l::i::Z::Z::k::zn 47 []) σ
 (Qk 2 a155_23 (finR PP Tryz.f155.results.toList))
def F155 (a b c d:DV) (σ:Qa):RS:=
 Qo G PP (pol 155) CC lo c155_0 a155_0 (a::b::c::d::zn 56 []) σ (finR PP Tryz.f155.results.toList)
theorem f155_L0_eq (G:Qh) (hG:Qq G) (lo:Nat) (a d l i g j:DV) (σ:Qa):f155_L0 G lo a d l i g j σ =
 (binOp PP .geq 3 j I0).bind fun t=>
 Qj t
 (
 (Qg CC lo (DV.fn 164 []) [a,j,g,l,d] σ).bind fun r29_1=>
 (binOp PP .sub 3 j I1).bind fun u=>
 f155_L0 G lo a d l i g u r29_1.2
 )
 (
 (binOp PP .sub 3 g I1).bind fun E=>
 f155_L1 G lo a d l i E σ
 ):=(Qm G hG).trans (by kernel_rfl)
theorem f155_L1_eq (G:Qh) (hG:Qq G) (lo:Nat) (a d l i k:DV) (σ:Qa):f155_L1 G lo a d l i k σ =
 (binOp PP .geq 3 k I0).bind fun ae=>
 Qj ae
 (
 (binOp PP .add 3 l k).bind fun x=>
 (binOp PP .add 3 l k).bind fun P=>
 (indexAddr PP 23 a P).bind fun y=>
 (load PP 69 y σ).bind fun Q=>
 (indexAddr PP 23 a l).bind fun aw=>
 (load PP 69 aw σ).bind fun bb=>
 (indexAddr PP 23 a l).bind fun Y=>
 (store PP lo 69 Y Q σ).bind fun σ2=>
 (indexAddr PP 23 a x).bind fun S=>
 (store PP lo 69 S bb σ2).bind fun σ3=>
 (Qg CC lo (DV.fn 164 []) [a,i,k,l,d] σ3).bind fun r59_4=>
 (binOp PP .sub 3 k I1).bind fun aq=>
 f155_L1 G lo a d l i aq r59_4.2
 )
 (
 some ((DV.tuple []),σ)
 ):=(Qm G hG).trans (by kernel_rfl)
theorem F155_eq (G:Qh) (lo:Nat) (a b c d:DV) (σ:Qa):F155 G lo a b c d σ =
 (binOp PP .sub 3 c b).bind fun U=>
 (binOp PP .sub 3 U I1).bind fun R=>
 (binOp PP .quo 3 R (DV.p (PV.int IntKind.i64 (2)))).bind fun av=>
 f155_L0 G lo a d b I0 U av σ:=by kernel_rfl
theorem F155_call {lo:Nat} {a b c d:DV} (h:F155 Qb lo a b c d σ=some r):CC lo 155 [a,b,c,d] σ=some r:=
 callL_run Tryz.func155 (by decide +kernel) rfl (by decide +kernel) h
def c164_0:Code:=Qw Tryz.f164
def a164_0:Ann:=(pol 164).ann
def a164_2:Ann:=right a164_0
def a164_3:Ann:=left a164_2
def c164_4:Code:=fstC (fstC (sndC c164_0))
def a164_4:Ann:=left a164_3
def c164_19:Code:=sndC (sndC (sndC (fstC c164_4)))
def a164_19:Ann:=right (right (right (left a164_4)))
def f164_L0 (a c d f g:DV) (σ:Qa):RS:=
 Qo G PP (pol 164) CC lo (.loop c164_4) a164_3 (a::Z::c::d::f::zn 5 (g::zn 71 [])) σ
 (Qk 0 a164_2 (finR PP Tryz.f164.results.toList))
def f164_J0 (a c d f g j q w z U O R av L t o u I A ah W au af ak E H ae X aq aj ar aa J C x B:DV) (σ:Qa):RS:=
 (seqC G PP (pol 164) CC lo c164_19 a164_19 (Qk 1 a164_4 (QY G PP (pol 164) CC lo c164_4 a164_3 (Qk 0 a164_2 (finR PP Tryz.f164.results.toList))))) .normal (a::Z::c::d::f::zn 5 (g::j::Z::q::w::z::U::O::R::av::L::t::o::u::I::A::ah::W::au::af::ak::E::H::ae::X::aq::aj::ar::aa::J::C::x::B::zn 39 [])) σ
def F164 (a b c d f:DV) (σ:Qa):RS:=
 Qo G PP (pol 164) CC lo c164_0 a164_0 (a::b::c::d::f::zn 77 []) σ (finR PP Tryz.f164.results.toList)
theorem f164_J0_eq (G:Qh) (lo:Nat) (a c d f g j q w z U O R av L t o u I A ah W au af ak E H ae X aq aj ar aa J C x B:DV) (σ:Qa):f164_J0 G lo a c d f g j q w z U O R av L t o u I A ah W au af ak E H ae X aq aj ar aa J C x B σ =
 (binOp PP .add 3 d g).bind fun Q=>
 (indexAddr PP 23 a Q).bind fun M=>
 (load PP 69 M σ).bind fun ba=>
 (binOp PP .add 3 d j).bind fun S=>
 (indexAddr PP 23 a S).bind fun T=>
 (load PP 69 T σ).bind fun am=>
 (Qi CC f [ba,am] σ).bind fun be=>
 (binOp PP .lss 3 be I0).bind fun bp=>
 (unOp .not bp).bind fun ao=>
 Qj ao
 (
 some ((DV.tuple []),σ)
 )
 (
 (binOp PP .add 3 d g).bind fun bv=>
 (binOp PP .add 3 d j).bind fun bf=>
 (binOp PP .add 3 d j).bind fun bt=>
 (indexAddr PP 23 a bt).bind fun b9=>
 (load PP 69 b9 σ).bind fun cv=>
 (binOp PP .add 3 d g).bind fun cd=>
 (indexAddr PP 23 a cd).bind fun bm=>
 (load PP 69 bm σ).bind fun c8=>
 (indexAddr PP 23 a bv).bind fun bz=>
 (store PP lo 69 bz cv σ).bind fun σ17=>
 (indexAddr PP 23 a bf).bind fun ca=>
 (store PP lo 69 ca c8 σ17).bind fun σ18=>
 f164_L0 G lo a c d f j σ18
 ):=by kernel_rfl
theorem f164_L0_eqN (G:Qh) (hG:Qq G) (lo:Nat) (a c d f g:DV) (σ:Qa):f164_L0 G lo a c d f g σ =
 (binOp PP .mul 3 (DV.p (PV.int IntKind.i64 (2))) g).bind fun w=>
 (binOp PP .add 3 w I1).bind fun z=>
 (binOp PP .geq 3 z c).bind fun R=>
 Qj R
 (
 some ((DV.tuple []),σ)
 )
 (
 (binOp PP .add 3 z I1).bind fun L=>
 (binOp PP .lss 3 L c).bind fun o=>
 G _ o true (some (f,σ)) σ fun I σ1=>
 G _ o true (some (a,σ1)) σ1 fun A σ2=>
 G _ o true (some (d,σ2)) σ2 fun ah σ3=>
 G _ o true (some (z,σ3)) σ3 fun W σ4=>
 Gp G o true (binOp PP .add 3 ah W) σ4 fun au σ5=>
 Gp G o true (indexAddr PP 23 A au) σ5 fun af σ6=>
 Gp G o true (load PP 69 af σ6) σ6 fun ak σ7=>
 G _ o true (some (a,σ7)) σ7 fun E σ8=>
 G _ o true (some (d,σ8)) σ8 fun H σ9=>
 G _ o true (some (z,σ9)) σ9 fun ae σ10=>
 Gp G o true (binOp PP .add 3 H ae) σ10 fun X σ11=>
 Gp G o true (binOp PP .add 3 X I1) σ11 fun aq σ12=>
 Gp G o true (indexAddr PP 23 E aq) σ12 fun aj σ13=>
 Gp G o true (load PP 69 aj σ13) σ13 fun ar σ14=>
 Gp G o true (Qi CC I [ak,ar] σ14) σ14 fun aa σ15=>
 Gp G o true (binOp PP .lss 3 aa I0) σ15 fun J σ16=>
 (Qt o J (DV.p (PV.bool false))).bind fun C=>
 Qj C
 (
 (binOp PP .add 3 z I1).bind fun B=>
 (binOp PP .add 3 d g).bind fun Q=>
 (indexAddr PP 23 a Q).bind fun M=>
 (load PP 69 M σ16).bind fun ba=>
 (binOp PP .add 3 d B).bind fun S=>
 (indexAddr PP 23 a S).bind fun T=>
 (load PP 69 T σ16).bind fun am=>
 (Qi CC f [ba,am] σ16).bind fun be=>
 (binOp PP .lss 3 be I0).bind fun bp=>
 (unOp .not bp).bind fun ao=>
 Qj ao
 (
 some ((DV.tuple []),σ16)
 )
 (
 (binOp PP .add 3 d g).bind fun bv=>
 (binOp PP .add 3 d B).bind fun bf=>
 (binOp PP .add 3 d B).bind fun bt=>
 (indexAddr PP 23 a bt).bind fun b9=>
 (load PP 69 b9 σ16).bind fun cv=>
 (binOp PP .add 3 d g).bind fun cd=>
 (indexAddr PP 23 a cd).bind fun bm=>
 (load PP 69 bm σ16).bind fun c8=>
 (indexAddr PP 23 a bv).bind fun bz=>
 (store PP lo 69 bz cv σ16).bind fun σ17=>
 (indexAddr PP 23 a bf).bind fun ca=>
 (store PP lo 69 ca c8 σ17).bind fun σ18=>
 f164_L0 G lo a c d f B σ18
 )
 )
 (
 (binOp PP .add 3 d g).bind fun Q=>
 (indexAddr PP 23 a Q).bind fun M=>
 (load PP 69 M σ16).bind fun ba=>
 (binOp PP .add 3 d z).bind fun S=>
 (indexAddr PP 23 a S).bind fun T=>
 (load PP 69 T σ16).bind fun am=>
 (Qi CC f [ba,am] σ16).bind fun be=>
 (binOp PP .lss 3 be I0).bind fun bp=>
 (unOp .not bp).bind fun ao=>
 Qj ao
 (
 some ((DV.tuple []),σ16)
 )
 (
 (binOp PP .add 3 d g).bind fun bv=>
 (binOp PP .add 3 d z).bind fun bf=>
 (binOp PP .add 3 d z).bind fun bt=>
 (indexAddr PP 23 a bt).bind fun b9=>
 (load PP 69 b9 σ16).bind fun cv=>
 (binOp PP .add 3 d g).bind fun cd=>
 (indexAddr PP 23 a cd).bind fun bm=>
 (load PP 69 bm σ16).bind fun c8=>
 (indexAddr PP 23 a bv).bind fun bz=>
 (store PP lo 69 bz cv σ16).bind fun σ19=>
 (indexAddr PP 23 a bf).bind fun ca=>
 (store PP lo 69 ca c8 σ19).bind fun σ20=>
 f164_L0 G lo a c d f z σ20
 )
 )
 ):=(Qm G hG).trans (by kernel_rfl)
theorem f164_L0_eq (G:Qh) (hG:Qq G) (lo:Nat) (a c d f g:DV) (σ:Qa):f164_L0 G lo a c d f g σ =
 (binOp PP .mul 3 (DV.p (PV.int IntKind.i64 (2))) g).bind fun w=>
 (binOp PP .add 3 w I1).bind fun z=>
 (binOp PP .geq 3 z c).bind fun R=>
 Qj R
 (
 some ((DV.tuple []),σ)
 )
 (
 (binOp PP .add 3 z I1).bind fun L=>
 (binOp PP .lss 3 L c).bind fun o=>
 G _ o true (some (f,σ)) σ fun I σ1=>
 G _ o true (some (a,σ1)) σ1 fun A σ2=>
 G _ o true (some (d,σ2)) σ2 fun ah σ3=>
 G _ o true (some (z,σ3)) σ3 fun W σ4=>
 Gp G o true (binOp PP .add 3 ah W) σ4 fun au σ5=>
 Gp G o true (indexAddr PP 23 A au) σ5 fun af σ6=>
 Gp G o true (load PP 69 af σ6) σ6 fun ak σ7=>
 G _ o true (some (a,σ7)) σ7 fun E σ8=>
 G _ o true (some (d,σ8)) σ8 fun H σ9=>
 G _ o true (some (z,σ9)) σ9 fun ae σ10=>
 Gp G o true (binOp PP .add 3 H ae) σ10 fun X σ11=>
 Gp G o true (binOp PP .add 3 X I1) σ11 fun aq σ12=>
 Gp G o true (indexAddr PP 23 E aq) σ12 fun aj σ13=>
 Gp G o true (load PP 69 aj σ13) σ13 fun ar σ14=>
 Gp G o true (Qi CC I [ak,ar] σ14) σ14 fun aa σ15=>
 Gp G o true (binOp PP .lss 3 aa I0) σ15 fun J σ16=>
 (Qt o J (DV.p (PV.bool false))).bind fun C=>
 Qj C
 (
 (binOp PP .add 3 z I1).bind fun B=>
 f164_J0 G lo a c d f g B g w z z c R z L c o o I A ah W au af ak E H ae X aq aj ar aa J C z B σ16
 )
 (
 f164_J0 G lo a c d f g z g w z z c R z L c o o I A ah W au af ak E H ae X aq aj ar aa J C Z Z σ16
 )
 ):=(f164_L0_eqN G hG lo a c d f g σ).trans (by simp only [f164_J0_eq])
theorem F164_eq (G:Qh) (lo:Nat) (a b c d f:DV) (σ:Qa):F164 G lo a b c d f σ =
 f164_L0 G lo a c d f b σ:=by kernel_rfl
theorem F164_call {lo:Nat} {a b c d f:DV} (h:F164 Qb lo a b c d f σ=some r):CC lo 164 [a,b,c,d,f] σ=some r:=
 callL_run Tryz.func164 (by decide +kernel) rfl (by decide +kernel) h
def c156_0:Code:=Qw Tryz.f156
def a156_0:Ann:=(pol 156).ann
def a156_11:Ann:=right (right (right (left (right (right a156_0)))))
def a156_12:Ann:=left a156_11
def c156_13:Code:=fstC (fstC (sndC (sndC (sndC (fstC (sndC (sndC c156_0)))))))
def a156_20:Ann:=left (right (left a156_12))
def c156_29:Code:=sndC (sndC (fstC (fstC (sndC c156_13))))
def a156_29:Ann:=right (right (left a156_20))
def c156_30:Code:=sndC (sndC c156_13)
def a156_30:Ann:=right (right (left a156_12))
def f156_L0 (a b l i g j:DV) (σ:Qa):RS:=
 Qo G PP (pol 156) CC lo (.loop c156_13) a156_12 (a::b::zn 6 (l::i::g::j::zn 55 [])) σ
 (Qk 0 a156_11 (finR PP Tryz.f156.results.toList))
def f156_J0 (a b l i g j k au af ak E H ae X aq aa J C x B V ac P y Q M:DV) (σ:Qa):RS:=
 (seqC G PP (pol 156) CC lo c156_29 a156_29 (Qk 1 a156_20 (seqC G PP (pol 156) CC lo c156_30 a156_30 (QY G PP (pol 156) CC lo c156_13 a156_12 (Qk 0 a156_11 (finR PP Tryz.f156.results.toList)))))) .normal (a::b::zn 6 (l::i::g::j::k::zn 15 (au::af::ak::E::H::ae::X::aq::Z::Z::aa::J::C::x::B::V::ac::P::y::Q::M::zn 18 []))) σ
def F156 (a b c d:DV) (σ:Qa):RS:=
 Qo G PP (pol 156) CC lo c156_0 a156_0 (a::b::c::d::zn 63 []) σ (finR PP Tryz.f156.results.toList)
theorem f156_J0_eq (G:Qh) (lo:Nat) (a b l i g j k au af ak E H ae X aq aa J C x B V ac P y Q M:DV) (σ:Qa):f156_J0 G lo a b l i g j k au af ak E H ae X aq aa J C x B V ac P y Q M σ =
 (binOp PP .add 3 b k).bind fun T=>
 (binOp PP .add 3 b k).bind fun ao=>
 (indexAddr PP 23 a ao).bind fun bc=>
 (load PP 69 bc σ).bind fun az=>
 (indexAddr PP 23 a j).bind fun bj=>
 (load PP 69 bj σ).bind fun bi=>
 (indexAddr PP 23 a j).bind fun br=>
 (store PP lo 69 br az σ).bind fun σ3=>
 (indexAddr PP 23 a T).bind fun bf=>
 (store PP lo 69 bf bi σ3).bind fun σ4=>
 (binOp PP .add 3 j I1).bind fun ar=>
 f156_L0 G lo a b l i g ar σ4:=by kernel_rfl
theorem f156_L0_eqN (G:Qh) (hG:Qq G) (lo:Nat) (a b l i g j:DV) (σ:Qa):f156_L0 G lo a b l i g j σ =
 (binOp PP .quo 3 l (DV.p (PV.int IntKind.i64 (4)))).bind fun E=>
 (binOp PP .mul 3 E (DV.p (PV.int IntKind.i64 (2)))).bind fun H=>
 (binOp PP .add 3 b H).bind fun ae=>
 (binOp PP .add 3 ae I1).bind fun X=>
 (binOp PP .leq 3 j X).bind fun aq=>
 Qj aq
 (
 (Qg CC lo (DV.fn 148 []) [i] σ).bind fun r38_2=>
 (binOp PP .sub 165 g (DV.p (PV.int IntKind.u64 (1)))).bind fun C=>
 (binOp PP .and 165 r38_2.1 C).bind fun x=>
 (convert PP 165 3 x).bind fun B=>
 (binOp PP .geq 3 B l).bind fun P=>
 Qj P
 (
 (binOp PP .sub 3 B l).bind fun M=>
 (binOp PP .add 3 b M).bind fun T=>
 (binOp PP .add 3 b M).bind fun ao=>
 (indexAddr PP 23 a ao).bind fun bc=>
 (load PP 69 bc r38_2.2).bind fun az=>
 (indexAddr PP 23 a j).bind fun bj=>
 (load PP 69 bj r38_2.2).bind fun bi=>
 (indexAddr PP 23 a j).bind fun br=>
 (store PP lo 69 br az r38_2.2).bind fun σ3=>
 (indexAddr PP 23 a T).bind fun bf=>
 (store PP lo 69 bf bi σ3).bind fun σ4=>
 (binOp PP .add 3 j I1).bind fun ar=>
 f156_L0 G lo a b l i g ar σ4
 )
 (
 (binOp PP .add 3 b B).bind fun T=>
 (binOp PP .add 3 b B).bind fun ao=>
 (indexAddr PP 23 a ao).bind fun bc=>
 (load PP 69 bc r38_2.2).bind fun az=>
 (indexAddr PP 23 a j).bind fun bj=>
 (load PP 69 bj r38_2.2).bind fun bi=>
 (indexAddr PP 23 a j).bind fun br=>
 (store PP lo 69 br az r38_2.2).bind fun σ5=>
 (indexAddr PP 23 a T).bind fun bf=>
 (store PP lo 69 bf bi σ5).bind fun σ6=>
 (binOp PP .add 3 j I1).bind fun ar=>
 f156_L0 G lo a b l i g ar σ6
 )
 )
 (
 some ((DV.tuple []),σ)
 ):=(Qm G hG).trans (by kernel_rfl)
theorem f156_L0_eq (G:Qh) (hG:Qq G) (lo:Nat) (a b l i g j:DV) (σ:Qa):f156_L0 G lo a b l i g j σ =
 (binOp PP .quo 3 l (DV.p (PV.int IntKind.i64 (4)))).bind fun E=>
 (binOp PP .mul 3 E (DV.p (PV.int IntKind.i64 (2)))).bind fun H=>
 (binOp PP .add 3 b H).bind fun ae=>
 (binOp PP .add 3 ae I1).bind fun X=>
 (binOp PP .leq 3 j X).bind fun aq=>
 Qj aq
 (
 (Qg CC lo (DV.fn 148 []) [i] σ).bind fun r38_2=>
 (binOp PP .sub 165 g (DV.p (PV.int IntKind.u64 (1)))).bind fun C=>
 (binOp PP .and 165 r38_2.1 C).bind fun x=>
 (convert PP 165 3 x).bind fun B=>
 (binOp PP .geq 3 B l).bind fun P=>
 Qj P
 (
 (binOp PP .sub 3 B l).bind fun M=>
 f156_J0 G lo a b l i g j M j b l E H ae X aq r38_2.1 g C x B B l P B l M r38_2.2
 )
 (
 f156_J0 G lo a b l i g j B j b l E H ae X aq r38_2.1 g C x B B l P Z Z Z r38_2.2
 )
 )
 (
 some ((DV.tuple []),σ)
 ):=(f156_L0_eqN G hG lo a b l i g j σ).trans (by simp only [f156_J0_eq])
theorem F156_eq (G:Qh) (lo:Nat) (a b c d:DV) (σ:Qa):F156 G lo a b c d σ =
 (binOp PP .sub 3 c b).bind fun z=>
 (binOp PP .geq 3 z (DV.p (PV.int IntKind.i64 (8)))).bind fun O=>
 Qj O
 (
 (convert PP 3 185 z).bind fun av=>
 (Qz PP 185).bind fun z9=>
 (store PP lo 185 (DV.ptr (List.length σ) 0) av (σ++[Row.mix z9])).bind fun σ1=>
 (Qi CC (DV.fn 147 []) [z] σ1).bind fun t=>
 (binOp PP .quo 3 z (DV.p (PV.int IntKind.i64 (4)))).bind fun I=>
 (binOp PP .mul 3 I (DV.p (PV.int IntKind.i64 (2)))).bind fun A=>
 (binOp PP .add 3 b A).bind fun ah=>
 (binOp PP .sub 3 ah I1).bind fun W=>
 f156_L0 G lo a b z (DV.ptr (List.length σ) 0) t W σ1
 )
 (
 some ((DV.tuple []),σ)
 ):=by kernel_rfl
theorem F156_call {lo:Nat} {a b c d:DV} (h:F156 Qb lo a b c d σ=some r):CC lo 156 [a,b,c,d] σ=some r:=
 callL_run Tryz.func156 (by decide +kernel) rfl (by decide +kernel) h
def c157_0:Code:=Qw Tryz.f157
def a157_0:Ann:=(pol 157).ann
def c157_26:Code:=sndC (fstC (sndC (fstC (sndC (sndC (sndC (sndC (sndC (sndC c157_0)))))))))
def a157_26:Ann:=right (left (right (left (right (right (right (right (right (right a157_0)))))))))
def c157_28:Code:=sndC (sndC (sndC (sndC (sndC (sndC (sndC c157_0))))))
def a157_28:Ann:=right (right (right (right (right (right (right a157_0))))))
def f157_J0_fr (a b c d l i g j k q w z U O R av L t o u I A ah W au af ak E H ae X aq aj ar aa J C x B V ac P y Q M:DV):Qr:=(a::b::c::d::Z::Z::Z::Z::l::i::g::j::k::q::w::z::U::O::R::av::L::t::o::u::I::A::ah::W::au::af::ak::E::H::ae::X::aq::aj::ar::aa::J::C::x::B::V::ac::P::y::Q::M::zn 14 [])
def f157_J0 (a b c d l i g j k q w z U O R av L t o u I A ah W au af ak E H ae X aq aj ar aa J C x B V ac P y Q M:DV) (σ:Qa):RS:=
 (seqC G PP (pol 157) CC lo c157_26 a157_26 (seqC G PP (pol 157) CC lo c157_28 a157_28 (finR PP Tryz.f157.results.toList))) .normal (f157_J0_fr a b c d l i g j k q w z U O R av L t o u I A ah W au af ak E H ae X aq aj ar aa J C x B V ac P y Q M) σ
def f157_J1_fr (a b c d l i g j k q w z U O R av L t o u I A ah W au af ak E H ae X aq aj ar aa J C x B V ac P y Q M ba aw bb Y S T:DV):Qr:=(a::b::c::d::Z::Z::Z::Z::l::i::g::j::k::q::w::z::U::O::R::av::L::t::o::u::I::A::ah::W::au::af::ak::E::H::ae::X::aq::aj::ar::aa::J::C::x::B::V::ac::P::y::Q::M::ba::aw::bb::Y::S::T::zn 8 [])
def f157_J1 (a b c d l i g j k q w z U O R av L t o u I A ah W au af ak E H ae X aq aj ar aa J C x B V ac P y Q M ba aw bb Y S T:DV) (σ:Qa):RS:=
 (seqC G PP (pol 157) CC lo c157_28 a157_28 (finR PP Tryz.f157.results.toList)) .normal (f157_J1_fr a b c d l i g j k q w z U O R av L t o u I A ah W au af ak E H ae X aq aj ar aa J C x B V ac P y Q M ba aw bb Y S T) σ
def F157 (a b c d:DV) (σ:Qa):RS:=
 Qo G PP (pol 157) CC lo c157_0 a157_0 (a::b::c::d::zn 59 []) σ (finR PP Tryz.f157.results.toList)
theorem f157_J0_gen (G:Qh) (lo:Nat) (N0:Qr→Qa→Option (DV×Qa)) (a b c d l i g j k q w z U O R av L t o u I A ah W au af ak E H ae X aq aj ar aa J C x B V ac P y Q M:DV) (σ:Qa):(seqC G PP (pol 157) CC lo c157_26 a157_26 (VT N0 (seqC G PP (pol 157) CC lo c157_28 a157_28 (finR PP Tryz.f157.results.toList)))) .normal (f157_J0_fr a b c d l i g j k q w z U O R av L t o u I A ah W au af ak E H ae X aq aj ar aa J C x B V ac P y Q M) σ =
 (Qg CC lo (DV.fn 166 []) [a,k,q,w,j,d] σ).bind fun r54_4=>
 N0 (f157_J1_fr a b c d l i g j k r54_4.1 w z U O R av L t o u I A ah W au af ak E H ae X aq aj ar aa J C x B V ac P y Q M a k q w d r54_4.1) r54_4.2:=by kernel_rfl
theorem f157_J0_eq (G:Qh) (lo:Nat) (a b c d l i g j k q w z U O R av L t o u I A ah W au af ak E H ae X aq aj ar aa J C x B V ac P y Q M:DV) (σ:Qa):f157_J0 G lo a b c d l i g j k q w z U O R av L t o u I A ah W au af ak E H ae X aq aj ar aa J C x B V ac P y Q M σ =
 (Qg CC lo (DV.fn 166 []) [a,k,q,w,j,d] σ).bind fun r54_4=>
 f157_J1 G lo a b c d l i g j k r54_4.1 w z U O R av L t o u I A ah W au af ak E H ae X aq aj ar aa J C x B V ac P y Q M a k q w d r54_4.1 r54_4.2:=by
 have h:=f157_J0_gen (N0:=(seqC G PP (pol 157) CC lo c157_28 a157_28 (finR PP Tryz.f157.results.toList)) .normal) G lo a b c d l i g j k q w z U O R av L t o u I A ah W au af ak E H ae X aq aj ar aa J C x B V ac P y Q M σ
 simp only [splitC_eta] at h
 exact h
theorem f157_J1_eq (G:Qh) (lo:Nat) (a b c d l i g j k q w z U O R av L t o u I A ah W au af ak E H ae X aq aj ar aa J C x B V ac P y Q M ba aw bb Y S T:DV) (σ:Qa):f157_J1 G lo a b c d l i g j k q w z U O R av L t o u I A ah W au af ak E H ae X aq aj ar aa J C x B V ac P y Q M ba aw bb Y S T σ =
 (load PP 3 j σ).bind fun am=>
 (binOp PP .eql 3 am I0).bind fun ao=>
 Qj ao
 (
 some ((DV.tuple [q,I1]),σ)
 )
 (
 (binOp PP .eql 3 am (DV.p (PV.int IntKind.i64 (12)))).bind fun bk=>
 Qj bk
 (
 some ((DV.tuple [q,(DV.p (PV.int IntKind.i64 (2)))]),σ)
 )
 (
 some ((DV.tuple [q,I0]),σ)
 )
 ):=by kernel_rfl
theorem F157_eqN (G:Qh) (lo:Nat) (a b c d:DV) (σ:Qa):F157 G lo a b c d σ =
 (binOp PP .sub 3 c b).bind fun O=>
 (Qz PP 3).bind fun z11=>
 (binOp PP .quo 3 O (DV.p (PV.int IntKind.i64 (4)))).bind fun L=>
 (binOp PP .mul 3 L I1).bind fun t=>
 (binOp PP .add 3 b t).bind fun o=>
 (binOp PP .quo 3 O (DV.p (PV.int IntKind.i64 (4)))).bind fun A=>
 (binOp PP .mul 3 A (DV.p (PV.int IntKind.i64 (2)))).bind fun ah=>
 (binOp PP .add 3 b ah).bind fun W=>
 (binOp PP .quo 3 O (DV.p (PV.int IntKind.i64 (4)))).bind fun ak=>
 (binOp PP .mul 3 ak (DV.p (PV.int IntKind.i64 (3)))).bind fun E=>
 (binOp PP .add 3 b E).bind fun H=>
 (binOp PP .geq 3 O (DV.p (PV.int IntKind.i64 (8)))).bind fun X=>
 Qj X
 (
 (binOp PP .geq 3 O (DV.p (PV.int IntKind.i64 (50)))).bind fun aj=>
 Qj aj
 (
 (Qg CC lo (DV.fn 165 []) [a,o,(DV.ptr (List.length σ) 0),d] (σ++[Row.mix z11])).bind fun r40_1=>
 (Qg CC lo (DV.fn 165 []) [a,W,(DV.ptr (List.length σ) 0),d] r40_1.2).bind fun r44_2=>
 (Qg CC lo (DV.fn 165 []) [a,H,(DV.ptr (List.length σ) 0),d] r44_2.2).bind fun r48_3=>
 (Qg CC lo (DV.fn 166 []) [a,r40_1.1,r44_2.1,r48_3.1,(DV.ptr (List.length σ) 0),d] r48_3.2).bind fun r54_4=>
 (load PP 3 (DV.ptr (List.length σ) 0) r54_4.2).bind fun am=>
 (binOp PP .eql 3 am I0).bind fun ao=>
 Qj ao
 (
 some ((DV.tuple [r54_4.1,I1]),r54_4.2)
 )
 (
 (binOp PP .eql 3 am (DV.p (PV.int IntKind.i64 (12)))).bind fun bk=>
 Qj bk
 (
 some ((DV.tuple [r54_4.1,(DV.p (PV.int IntKind.i64 (2)))]),r54_4.2)
 )
 (
 some ((DV.tuple [r54_4.1,I0]),r54_4.2)
 )
 )
 )
 (
 (Qg CC lo (DV.fn 166 []) [a,o,W,H,(DV.ptr (List.length σ) 0),d] (σ++[Row.mix z11])).bind fun r54_5=>
 (load PP 3 (DV.ptr (List.length σ) 0) r54_5.2).bind fun am=>
 (binOp PP .eql 3 am I0).bind fun ao=>
 Qj ao
 (
 some ((DV.tuple [r54_5.1,I1]),r54_5.2)
 )
 (
 (binOp PP .eql 3 am (DV.p (PV.int IntKind.i64 (12)))).bind fun bk=>
 Qj bk
 (
 some ((DV.tuple [r54_5.1,(DV.p (PV.int IntKind.i64 (2)))]),r54_5.2)
 )
 (
 some ((DV.tuple [r54_5.1,I0]),r54_5.2)
 )
 )
 )
 )
 (
 (load PP 3 (DV.ptr (List.length σ) 0) (σ++[Row.mix z11])).bind fun am=>
 (binOp PP .eql 3 am I0).bind fun ao=>
 Qj ao
 (
 some ((DV.tuple [W,I1]),(σ++[Row.mix z11]))
 )
 (
 (binOp PP .eql 3 am (DV.p (PV.int IntKind.i64 (12)))).bind fun bk=>
 Qj bk
 (
 some ((DV.tuple [W,(DV.p (PV.int IntKind.i64 (2)))]),(σ++[Row.mix z11]))
 )
 (
 some ((DV.tuple [W,I0]),(σ++[Row.mix z11]))
 )
 )
 ):=by kernel_rfl
theorem F157_eq (G:Qh) (lo:Nat) (a b c d:DV) (σ:Qa):F157 G lo a b c d σ =
 (binOp PP .sub 3 c b).bind fun O=>
 (Qz PP 3).bind fun z11=>
 (binOp PP .quo 3 O (DV.p (PV.int IntKind.i64 (4)))).bind fun L=>
 (binOp PP .mul 3 L I1).bind fun t=>
 (binOp PP .add 3 b t).bind fun o=>
 (binOp PP .quo 3 O (DV.p (PV.int IntKind.i64 (4)))).bind fun A=>
 (binOp PP .mul 3 A (DV.p (PV.int IntKind.i64 (2)))).bind fun ah=>
 (binOp PP .add 3 b ah).bind fun W=>
 (binOp PP .quo 3 O (DV.p (PV.int IntKind.i64 (4)))).bind fun ak=>
 (binOp PP .mul 3 ak (DV.p (PV.int IntKind.i64 (3)))).bind fun E=>
 (binOp PP .add 3 b E).bind fun H=>
 (binOp PP .geq 3 O (DV.p (PV.int IntKind.i64 (8)))).bind fun X=>
 Qj X
 (
 (binOp PP .geq 3 O (DV.p (PV.int IntKind.i64 (50)))).bind fun aj=>
 Qj aj
 (
 (Qg CC lo (DV.fn 165 []) [a,o,(DV.ptr (List.length σ) 0),d] (σ++[Row.mix z11])).bind fun r40_1=>
 (Qg CC lo (DV.fn 165 []) [a,W,(DV.ptr (List.length σ) 0),d] r40_1.2).bind fun r44_2=>
 (Qg CC lo (DV.fn 165 []) [a,H,(DV.ptr (List.length σ) 0),d] r44_2.2).bind fun r48_3=>
 f157_J0 G lo a b c d I0 I0 O (DV.ptr (List.length σ) 0) r40_1.1 r44_2.1 r48_3.1 c b O b O L t o b O A ah W b O ak E H O X O aj a o d r40_1.1 a W d r44_2.1 a H d r48_3.1 r48_3.2
 )
 (
 f157_J0 G lo a b c d I0 I0 O (DV.ptr (List.length σ) 0) o W H c b O b O L t o b O A ah W b O ak E H O X O aj Z Z Z Z Z Z Z Z Z Z Z Z (σ++[Row.mix z11])
 )
 )
 (
 f157_J1 G lo a b c d I0 I0 O (DV.ptr (List.length σ) 0) o W H c b O b O L t o b O A ah W b O ak E H O X Z Z Z Z Z Z Z Z Z Z Z Z Z Z Z Z Z Z Z Z (σ++[Row.mix z11])
 ):=(F157_eqN G lo a b c d σ).trans (by simp only [f157_J0_eq,f157_J1_eq])
theorem F157_call {lo:Nat} {a b c d:DV} (h:F157 Qb lo a b c d σ=some r):CC lo 157 [a,b,c,d] σ=some r:=
 callL_run Tryz.func157 (by decide +kernel) rfl (by decide +kernel) h
def c165_0:Code:=Qw Tryz.f165
def a165_0:Ann:=(pol 165).ann
def F165 (a b c d:DV) (σ:Qa):RS:=
 Qo G PP (pol 165) CC lo c165_0 a165_0 (a::b::c::d::zn 14 []) σ (finR PP Tryz.f165.results.toList)
theorem F165_eq (G:Qh) (lo:Nat) (a b c d:DV) (σ:Qa):F165 G lo a b c d σ =
 (binOp PP .sub 3 b I1).bind fun j=>
 (binOp PP .add 3 b I1).bind fun w=>
 (Qg CC lo (DV.fn 166 []) [a,j,b,w,c,d] σ).bind fun r17_1=>
 some (r17_1.1,r17_1.2):=by kernel_rfl
theorem F165_call {lo:Nat} {a b c d:DV} (h:F165 Qb lo a b c d σ=some r):CC lo 165 [a,b,c,d] σ=some r:=
 callL_run Tryz.func165 (by decide +kernel) rfl (by decide +kernel) h
def c166_0:Code:=Qw Tryz.f166
def a166_0:Ann:=(pol 166).ann
def F166 (a b c d f m:DV) (σ:Qa):RS:=
 Qo G PP (pol 166) CC lo c166_0 a166_0 (a::b::c::d::f::m::zn 35 []) σ (finR PP Tryz.f166.results.toList)
theorem F166_eq (G:Qh) (lo:Nat) (a b c d f m:DV) (σ:Qa):F166 G lo a b c d f m σ =
 (Qg CC lo (DV.fn 167 []) [a,b,c,f,m] σ).bind fun r19_1=>
 (Ql r19_1.1 0).bind fun L=>
 (Ql r19_1.1 1).bind fun t=>
 (Qg CC lo (DV.fn 167 []) [a,t,d,f,m] r19_1.2).bind fun r28_2=>
 (Ql r28_2.1 0).bind fun af=>
 (Ql r28_2.1 1).bind fun ak=>
 (Qg CC lo (DV.fn 167 []) [a,L,af,f,m] r28_2.2).bind fun r37_3=>
 (Ql r37_3.1 0).bind fun aa=>
 (Ql r37_3.1 1).bind fun J=>
 some (J,r37_3.2):=by kernel_rfl
theorem F166_call {lo:Nat} {a b c d f m:DV} (h:F166 Qb lo a b c d f m σ=some r):CC lo 166 [a,b,c,d,f,m] σ=some r:=
 callL_run Tryz.func166 (by decide +kernel) rfl (by decide +kernel) h
def c167_0:Code:=Qw Tryz.f167
def a167_0:Ann:=(pol 167).ann
def F167 (a b c d f:DV) (σ:Qa):RS:=
 Qo G PP (pol 167) CC lo c167_0 a167_0 (a::b::c::d::f::zn 27 []) σ (finR PP Tryz.f167.results.toList)
theorem F167_eq (G:Qh) (lo:Nat) (a b c d f:DV) (σ:Qa):F167 G lo a b c d f σ =
 (indexAddr PP 23 a c).bind fun z=>
 (load PP 69 z σ).bind fun U=>
 (indexAddr PP 23 a b).bind fun av=>
 (load PP 69 av σ).bind fun L=>
 (Qi CC f [U,L] σ).bind fun t=>
 (binOp PP .lss 3 t I0).bind fun o=>
 Qj o
 (
 (QX d).bind fun I=>
 (load PP 3 I σ).bind fun A=>
 (binOp PP .add 3 A I1).bind fun ah=>
 (QX d).bind fun W=>
 (store PP lo 3 W ah σ).bind fun σ1=>
 some ((DV.tuple [c,b]),σ1)
 )
 (
 some ((DV.tuple [b,c]),σ)
 ):=by kernel_rfl
theorem F167_call {lo:Nat} {a b c d f:DV} (h:F167 Qb lo a b c d f σ=some r):CC lo 167 [a,b,c,d,f] σ=some r:=
 callL_run Tryz.func167 (by decide +kernel) rfl (by decide +kernel) h
def c158_0:Code:=Qw Tryz.f158
def a158_0:Ann:=(pol 158).ann
def a158_4:Ann:=right (right a158_0)
def a158_5:Ann:=left a158_4
def c158_6:Code:=fstC (fstC (sndC (sndC c158_0)))
def f158_L0 (a l i:DV) (σ:Qa):RS:=
 Qo G PP (pol 158) CC lo (.loop c158_6) a158_5 (a::zn 7 (l::i::zn 24 [])) σ
 (Qk 0 a158_4 (finR PP Tryz.f158.results.toList))
def F158 (a b c d:DV) (σ:Qa):RS:=
 Qo G PP (pol 158) CC lo c158_0 a158_0 (a::b::c::d::zn 30 []) σ (finR PP Tryz.f158.results.toList)
theorem f158_L0_eq (G:Qh) (hG:Qq G) (lo:Nat) (a l i:DV) (σ:Qa):f158_L0 G lo a l i σ =
 (binOp PP .lss 3 l i).bind fun z=>
 Qj z
 (
 (indexAddr PP 23 a i).bind fun o=>
 (load PP 69 o σ).bind fun u=>
 (indexAddr PP 23 a l).bind fun ah=>
 (load PP 69 ah σ).bind fun W=>
 (indexAddr PP 23 a l).bind fun au=>
 (store PP lo 69 au u σ).bind fun σ1=>
 (indexAddr PP 23 a i).bind fun af=>
 (store PP lo 69 af W σ1).bind fun σ2=>
 (binOp PP .add 3 l I1).bind fun E=>
 (binOp PP .sub 3 i I1).bind fun ae=>
 f158_L0 G lo a E ae σ2
 )
 (
 some ((DV.tuple []),σ)
 ):=(Qm G hG).trans (by kernel_rfl)
theorem F158_eq (G:Qh) (lo:Nat) (a b c d:DV) (σ:Qa):F158 G lo a b c d σ =
 (binOp PP .sub 3 c I1).bind fun k=>
 f158_L0 G lo a b k σ:=by kernel_rfl
theorem F158_call {lo:Nat} {a b c d:DV} (h:F158 Qb lo a b c d σ=some r):CC lo 158 [a,b,c,d] σ=some r:=
 callL_run Tryz.func158 (by decide +kernel) rfl (by decide +kernel) h
def c159_0:Code:=Qw Tryz.f159
def a159_0:Ann:=(pol 159).ann
def VK:Ann:=right (left (right (right a159_0)))
def Vz:Ann:=left VK
def Vk:Code:=fstC (fstC (sndC (fstC (sndC (sndC c159_0)))))
def WI:Ann:=left (right (left Vz))
def a159_18:Ann:=left (left WI)
def a159_19:Ann:=left a159_18
def c159_20:Code:=fstC (fstC (fstC (fstC (fstC (sndC Vk)))))
def c159_28:Code:=sndC (fstC (fstC (sndC Vk)))
def a159_28:Ann:=right (left WI)
def a159_52:Ann:=right (left (right (left (right (right (right a159_28))))))
def a159_53:Ann:=left a159_52
def c159_54:Code:=fstC (fstC (sndC (fstC (sndC (fstC (sndC (sndC (sndC c159_28))))))))
def c159_71:Code:=sndC (sndC (sndC (sndC c159_28)))
def a159_71:Ann:=right (right (right (right a159_28)))
def a159_76:Ann:=right (left (right a159_71))
def a159_77:Ann:=left a159_76
def c159_78:Code:=fstC (fstC (sndC (fstC (sndC c159_71))))
def Vj:Code:=sndC (sndC Vk)
def Vq:Ann:=right (right (left Vz))
def WS:Code:=sndC (sndC (sndC c159_0))
def WU:Ann:=right (right (right a159_0))
def f159_L0 (a b c d i g:DV) (σ:Qa):RS:=
 Qo G PP (pol 159) CC lo (.loop Vk) Vz (a::b::c::d::zn 5 (i::g::zn 130 [])) σ
 (Qk 0 VK (seqC G PP (pol 159) CC lo WS WU (finR PP Tryz.f159.results.toList)))
def f159_L1 (a b c d i g:DV) (σ:Qa):RS:=
 Qo G PP (pol 159) CC lo (.loop c159_20) a159_19 (a::b::c::d::zn 5 (i::g::zn 130 [])) σ
 (Qk 2 a159_18 (seqC G PP (pol 159) CC lo c159_28 a159_28 (Qk 1 WI (seqC G PP (pol 159) CC lo Vj Vq (QY G PP (pol 159) CC lo Vk Vz (Qk 0 VK (seqC G PP (pol 159) CC lo WS WU (finR PP Tryz.f159.results.toList))))))))
def f159_L2 (a b c d i g j:DV) (σ:Qa):RS:=
 Qo G PP (pol 159) CC lo (.loop c159_54) a159_53 (a::b::c::d::zn 5 (i::g::j::zn 129 [])) σ
 (Qk 4 a159_52 (seqC G PP (pol 159) CC lo c159_71 a159_71 (Qk 1 WI (seqC G PP (pol 159) CC lo Vj Vq (QY G PP (pol 159) CC lo Vk Vz (Qk 0 VK (seqC G PP (pol 159) CC lo WS WU (finR PP Tryz.f159.results.toList))))))))
def f159_J0_fr (a b c d i g j J C x B V ac P y Q M ba aw bb Y S T am be bp ao bc az bk bv bj bi br bf b8 cb dd bt b9 cv c9 N cm cd bm c8 bz ca cq n cz bg bq bl bn cr ch cn cu cg c7 ci cj cc bu dj db bh:DV):Qr:=(a::b::c::d::zn 5 (i::g::j::zn 27 (J::C::x::B::V::ac::P::y::Q::M::ba::aw::bb::Y::S::T::am::be::bp::ao::bc::az::bk::bv::bj::bi::br::bf::b8::cb::dd::bt::b9::cv::c9::N::cm::cd::bm::c8::bz::ca::cq::n::cz::bg::bq::bl::bn::cr::ch::cn::cu::cg::c7::ci::cj::cc::bu::dj::db::bh::zn 40 [])))
def f159_J0 (a b c d i g j J C x B V ac P y Q M ba aw bb Y S T am be bp ao bc az bk bv bj bi br bf b8 cb dd bt b9 cv c9 N cm cd bm c8 bz ca cq n cz bg bq bl bn cr ch cn cu cg c7 ci cj cc bu dj db bh:DV) (σ:Qa):RS:=
 (seqC G PP (pol 159) CC lo c159_71 a159_71 (Qk 1 WI (seqC G PP (pol 159) CC lo Vj Vq (QY G PP (pol 159) CC lo Vk Vz (Qk 0 VK (seqC G PP (pol 159) CC lo WS WU (finR PP Tryz.f159.results.toList))))))) .normal (f159_J0_fr a b c d i g j J C x B V ac P y Q M ba aw bb Y S T am be bp ao bc az bk bv bj bi br bf b8 cb dd bt b9 cv c9 N cm cd bm c8 bz ca cq n cz bg bq bl bn cr ch cn cu cg c7 ci cj cc bu dj db bh) σ
def f159_L3 (a b c d i g k:DV) (σ:Qa):RS:=
 Qo G PP (pol 159) CC lo (.loop c159_78) a159_77 (a::b::c::d::zn 5 (i::g::Z::k::zn 128 [])) σ
 (Qk 6 a159_76 (Qk 1 WI (seqC G PP (pol 159) CC lo Vj Vq (QY G PP (pol 159) CC lo Vk Vz (Qk 0 VK (seqC G PP (pol 159) CC lo WS WU (finR PP Tryz.f159.results.toList)))))))
def f159_J1_fr (a b c d i g j k J C x B V ac P y Q M ba aw bb Y S T am be bp ao bc az bk bv bj bi br bf b8 cb dd bt b9 cv c9 N cm cd bm c8 bz ca cq n cz bg bq bl bn cr ch cn cu cg c7 ci cj cc bu dj db bh df ee dy dq dp ef dk dh di dg dr ai bw eg dz cp ct eh dw ce ei ck dl en co du eu da dc dx ew er ej ek et de eq ea cw dt:DV):Qr:=(a::b::c::d::zn 5 (i::g::j::k::zn 26 ([J,C,x,B,V,ac,P,y,Q,M,ba,aw,bb,Y,S,T,am,be,bp,ao,bc,az,bk,bv,bj,bi,br,bf,b8,cb,dd,bt,b9,cv,c9,N,cm,cd,bm,c8,bz,ca,cq,n,cz,bg,bq,bl,bn,cr,ch,cn,cu,cg,c7,ci,cj,cc,bu,dj,db,bh,df,ee,dy,dq,dp,ef,dk,dh,di,dg,dr,ai,bw,eg,dz,cp,ct,eh,dw,ce,ei,ck,dl,en,co,du,eu,da,dc,dx,ew,er,ej,ek,et,de,eq,ea,cw,dt])))
def f159_J1 (a b c d i g j k J C x B V ac P y Q M ba aw bb Y S T am be bp ao bc az bk bv bj bi br bf b8 cb dd bt b9 cv c9 N cm cd bm c8 bz ca cq n cz bg bq bl bn cr ch cn cu cg c7 ci cj cc bu dj db bh df ee dy dq dp ef dk dh di dg dr ai bw eg dz cp ct eh dw ce ei ck dl en co du eu da dc dx ew er ej ek et de eq ea cw dt:DV) (σ:Qa):RS:=
 (Qk 1 WI (seqC G PP (pol 159) CC lo Vj Vq (QY G PP (pol 159) CC lo Vk Vz (Qk 0 VK (seqC G PP (pol 159) CC lo WS WU (finR PP Tryz.f159.results.toList)))))) .normal (f159_J1_fr a b c d i g j k J C x B V ac P y Q M ba aw bb Y S T am be bp ao bc az bk bv bj bi br bf b8 cb dd bt b9 cv c9 N cm cd bm c8 bz ca cq n cz bg bq bl bn cr ch cn cu cg c7 ci cj cc bu dj db bh df ee dy dq dp ef dk dh di dg dr ai bw eg dz cp ct eh dw ce ei ck dl en co du eu da dc dx ew er ej ek et de eq ea cw dt) σ
def F159 (a b c d:DV) (σ:Qa):RS:=
 Qo G PP (pol 159) CC lo c159_0 a159_0 (a::b::c::d::zn 137 []) σ (finR PP Tryz.f159.results.toList)
theorem f159_L0_eq (G:Qh) (hG:Qq G) (lo:Nat) (a b c d i g:DV) (σ:Qa):f159_L0 G lo a b c d i g σ =
 (binOp PP .lss 3 g (DV.p (PV.int IntKind.i64 (5)))).bind fun U=>
 Qj U
 (
 f159_L1 G lo a b c d i g σ
 )
 (
 some ((DV.p (PV.bool false)),σ)
 ):=(Qm G hG).trans (by kernel_rfl)
theorem f159_L1_eq (G:Qh) (hG:Qq G) (lo:Nat) (a b c d i g:DV) (σ:Qa):f159_L1 G lo a b c d i g σ =
 (binOp PP .lss 3 i c).bind fun t=>
 G _ t true (some (d,σ)) σ fun u σ1=>
 G _ t true (some (a,σ1)) σ1 fun I σ2=>
 G _ t true (some (i,σ2)) σ2 fun A σ3=>
 Gp G t true (indexAddr PP 23 I A) σ3 fun ah σ4=>
 Gp G t true (load PP 69 ah σ4) σ4 fun W σ5=>
 G _ t true (some (a,σ5)) σ5 fun au σ6=>
 G _ t true (some (i,σ6)) σ6 fun af σ7=>
 Gp G t true (binOp PP .sub 3 af I1) σ7 fun ak σ8=>
 Gp G t true (indexAddr PP 23 au ak) σ8 fun E σ9=>
 Gp G t true (load PP 69 E σ9) σ9 fun H σ10=>
 Gp G t true (Qi CC u [W,H] σ10) σ10 fun ae σ11=>
 Gp G t true (binOp PP .lss 3 ae I0) σ11 fun X σ12=>
 Gp G t true (unOp .not X) σ12 fun aq σ13=>
 (Qt t aq (DV.p (PV.bool false))).bind fun aj=>
 Qj aj
 (
 (binOp PP .add 3 i I1).bind fun aa=>
 f159_L1 G lo a b c d aa g σ13
 )
 (
 (binOp PP .eql 3 i c).bind fun x=>
 Qj x
 (
 some ((DV.p (PV.bool true)),σ13)
 )
 (
 (binOp PP .sub 3 c b).bind fun ac=>
 (binOp PP .lss 3 ac (DV.p (PV.int IntKind.i64 (50)))).bind fun P=>
 Qj P
 (
 some ((DV.p (PV.bool false)),σ13)
 )
 (
 (binOp PP .sub 3 i I1).bind fun aw=>
 (binOp PP .sub 3 i I1).bind fun S=>
 (indexAddr PP 23 a S).bind fun T=>
 (load PP 69 T σ13).bind fun am=>
 (indexAddr PP 23 a i).bind fun ao=>
 (load PP 69 ao σ13).bind fun bc=>
 (indexAddr PP 23 a i).bind fun az=>
 (store PP lo 69 az am σ13).bind fun σ14=>
 (indexAddr PP 23 a aw).bind fun bk=>
 (store PP lo 69 bk bc σ14).bind fun σ15=>
 (binOp PP .sub 3 i b).bind fun bi=>
 (binOp PP .geq 3 bi (DV.p (PV.int IntKind.i64 (2)))).bind fun br=>
 Qj br
 (
 (binOp PP .sub 3 i I1).bind fun b8=>
 f159_L2 G lo a b c d i g b8 σ15
 )
 (
 f159_J0 G lo a b c d i g Z i c x c b ac P a i a i aw a i S T am a i ao bc az bk i b bi br Z Z Z Z Z Z Z Z Z Z Z Z Z Z Z Z Z Z Z Z Z Z Z Z Z Z Z Z Z Z Z Z Z Z Z σ15
 )
 )
 )
 ):=(Qm G hG).trans (by kernel_rfl)
theorem f159_L2_gen (G:Qh) (hG:Qq G) (lo:Nat) (N0:Qr→Qa→Option (DV×Qa)) (a b c d i g j:DV) (σ:Qa):Qo G PP (pol 159) CC lo (.loop c159_54) a159_53 (a::b::c::d::zn 5 (i::g::j::zn 129 [])) σ
 (Qk 4 a159_52 (VT N0 (seqC G PP (pol 159) CC lo c159_71 a159_71 (Qk 1 WI (seqC G PP (pol 159) CC lo Vj Vq (QY G PP (pol 159) CC lo Vk Vz (Qk 0 VK (seqC G PP (pol 159) CC lo WS WU (finR PP Tryz.f159.results.toList))))))))) =
 (binOp PP .geq 3 j I1).bind fun dd=>
 Qj dd
 (
 (indexAddr PP 23 a j).bind fun cm=>
 (load PP 69 cm σ).bind fun cd=>
 (binOp PP .sub 3 j I1).bind fun bz=>
 (indexAddr PP 23 a bz).bind fun ca=>
 (load PP 69 ca σ).bind fun cq=>
 (Qi CC d [cd,cq] σ).bind fun n=>
 (binOp PP .lss 3 n I0).bind fun cz=>
 (unOp .not cz).bind fun bg=>
 Qj bg
 (
 N0 (f159_J0_fr a b c d i g Z Z Z Z Z Z Z Z Z Z Z Z Z Z Z Z Z Z Z Z Z Z Z Z Z Z Z Z Z Z Z Z Z Z Z Z Z Z Z Z Z Z Z Z Z Z Z Z Z Z Z Z Z Z Z Z Z Z Z Z Z Z Z) σ
 )
 (
 (binOp PP .sub 3 j I1).bind fun ch=>
 (binOp PP .sub 3 j I1).bind fun cg=>
 (indexAddr PP 23 a cg).bind fun c7=>
 (load PP 69 c7 σ).bind fun ci=>
 (indexAddr PP 23 a j).bind fun bu=>
 (load PP 69 bu σ).bind fun dj=>
 (indexAddr PP 23 a j).bind fun db=>
 (store PP lo 69 db ci σ).bind fun σ18=>
 (indexAddr PP 23 a ch).bind fun bh=>
 (store PP lo 69 bh dj σ18).bind fun σ19=>
 (binOp PP .sub 3 j I1).bind fun b9=>
 Qo G PP (pol 159) CC lo (.loop c159_54) a159_53 (a::b::c::d::zn 5 (i::g::b9::zn 129 [])) σ19 (Qk 4 a159_52 (VT N0 (seqC G PP (pol 159) CC lo c159_71 a159_71 (Qk 1 WI (seqC G PP (pol 159) CC lo Vj Vq (QY G PP (pol 159) CC lo Vk Vz (Qk 0 VK (seqC G PP (pol 159) CC lo WS WU (finR PP Tryz.f159.results.toList)))))))))
 )
 )
 (
 N0 (f159_J0_fr a b c d i g Z Z Z Z Z Z Z Z Z Z Z Z Z Z Z Z Z Z Z Z Z Z Z Z Z Z Z Z Z Z Z Z Z Z Z Z Z Z Z Z Z Z Z Z Z Z Z Z Z Z Z Z Z Z Z Z Z Z Z Z Z Z Z) σ
 ):=(Qm G hG).trans (by kernel_rfl)
theorem f159_L2_eq (G:Qh) (hG:Qq G) (lo:Nat) (a b c d i g j:DV) (σ:Qa):f159_L2 G lo a b c d i g j σ =
 (binOp PP .geq 3 j I1).bind fun dd=>
 Qj dd
 (
 (indexAddr PP 23 a j).bind fun cm=>
 (load PP 69 cm σ).bind fun cd=>
 (binOp PP .sub 3 j I1).bind fun bz=>
 (indexAddr PP 23 a bz).bind fun ca=>
 (load PP 69 ca σ).bind fun cq=>
 (Qi CC d [cd,cq] σ).bind fun n=>
 (binOp PP .lss 3 n I0).bind fun cz=>
 (unOp .not cz).bind fun bg=>
 Qj bg
 (
 f159_J0 G lo a b c d i g Z Z Z Z Z Z Z Z Z Z Z Z Z Z Z Z Z Z Z Z Z Z Z Z Z Z Z Z Z Z Z Z Z Z Z Z Z Z Z Z Z Z Z Z Z Z Z Z Z Z Z Z Z Z Z Z Z Z Z Z Z Z Z σ
 )
 (
 (binOp PP .sub 3 j I1).bind fun ch=>
 (binOp PP .sub 3 j I1).bind fun cg=>
 (indexAddr PP 23 a cg).bind fun c7=>
 (load PP 69 c7 σ).bind fun ci=>
 (indexAddr PP 23 a j).bind fun bu=>
 (load PP 69 bu σ).bind fun dj=>
 (indexAddr PP 23 a j).bind fun db=>
 (store PP lo 69 db ci σ).bind fun σ18=>
 (indexAddr PP 23 a ch).bind fun bh=>
 (store PP lo 69 bh dj σ18).bind fun σ19=>
 (binOp PP .sub 3 j I1).bind fun b9=>
 f159_L2 G lo a b c d i g b9 σ19
 )
 )
 (
 f159_J0 G lo a b c d i g Z Z Z Z Z Z Z Z Z Z Z Z Z Z Z Z Z Z Z Z Z Z Z Z Z Z Z Z Z Z Z Z Z Z Z Z Z Z Z Z Z Z Z Z Z Z Z Z Z Z Z Z Z Z Z Z Z Z Z Z Z Z Z σ
 ):=by
 have h:=f159_L2_gen (N0:=(seqC G PP (pol 159) CC lo c159_71 a159_71 (Qk 1 WI (seqC G PP (pol 159) CC lo Vj Vq (QY G PP (pol 159) CC lo Vk Vz (Qk 0 VK (seqC G PP (pol 159) CC lo WS WU (finR PP Tryz.f159.results.toList))))))) .normal) G hG lo a b c d i g j σ
 simp only [splitC_eta] at h
 exact h
theorem f159_J0_eq (G:Qh) (lo:Nat) (a b c d i g j J C x B V ac P y Q M ba aw bb Y S T am be bp ao bc az bk bv bj bi br bf b8 cb dd bt b9 cv c9 N cm cd bm c8 bz ca cq n cz bg bq bl bn cr ch cn cu cg c7 ci cj cc bu dj db bh:DV) (σ:Qa):f159_J0 G lo a b c d i g j J C x B V ac P y Q M ba aw bb Y S T am be bp ao bc az bk bv bj bi br bf b8 cb dd bt b9 cv c9 N cm cd bm c8 bz ca cq n cz bg bq bl bn cr ch cn cu cg c7 ci cj cc bu dj db bh σ =
 (binOp PP .sub 3 c i).bind fun dy=>
 (binOp PP .geq 3 dy (DV.p (PV.int IntKind.i64 (2)))).bind fun dq=>
 Qj dq
 (
 (binOp PP .add 3 i I1).bind fun ef=>
 f159_L3 G lo a b c d i g ef σ
 )
 (
 f159_J1 G lo a b c d i g j Z J C x B V ac P y Q M ba aw bb Y S T am be bp ao bc az bk bv bj bi br bf b8 cb dd bt b9 cv c9 N cm cd bm c8 bz ca cq n cz bg bq bl bn cr ch cn cu cg c7 ci cj cc bu dj db bh c i dy dq Z Z Z Z Z Z Z Z Z Z Z Z Z Z Z Z Z Z Z Z Z Z Z Z Z Z Z Z Z Z Z Z Z Z Z Z σ
 ):=by kernel_rfl
theorem f159_L3_gen (G:Qh) (hG:Qq G) (lo:Nat) (N0:Qr→Qa→Option (DV×Qa)) (a b c d i g k:DV) (σ:Qa):Qo G PP (pol 159) CC lo (.loop c159_78) a159_77 (a::b::c::d::zn 5 (i::g::Z::k::zn 128 [])) σ
 (Qk 6 a159_76 (VT N0 (Qk 1 WI (seqC G PP (pol 159) CC lo Vj Vq (QY G PP (pol 159) CC lo Vk Vz (Qk 0 VK (seqC G PP (pol 159) CC lo WS WU (finR PP Tryz.f159.results.toList)))))))) =
 (binOp PP .lss 3 k c).bind fun di=>
 Qj di
 (
 (indexAddr PP 23 a k).bind fun dz=>
 (load PP 69 dz σ).bind fun cp=>
 (binOp PP .sub 3 k I1).bind fun dw=>
 (indexAddr PP 23 a dw).bind fun ce=>
 (load PP 69 ce σ).bind fun ei=>
 (Qi CC d [cp,ei] σ).bind fun ck=>
 (binOp PP .lss 3 ck I0).bind fun dl=>
 (unOp .not dl).bind fun en=>
 Qj en
 (
 N0 (f159_J1_fr a b c d i g Z Z Z Z Z Z Z Z Z Z Z Z Z Z Z Z Z Z Z Z Z Z Z Z Z Z Z Z Z Z Z Z Z Z Z Z Z Z Z Z Z Z Z Z Z Z Z Z Z Z Z Z Z Z Z Z Z Z Z Z Z Z Z Z Z Z Z Z Z Z Z Z Z Z Z Z Z Z Z Z Z Z Z Z Z Z Z Z Z Z Z Z Z Z Z Z Z Z Z Z Z Z Z Z) σ
 )
 (
 (binOp PP .sub 3 k I1).bind fun dc=>
 (binOp PP .sub 3 k I1).bind fun er=>
 (indexAddr PP 23 a er).bind fun ej=>
 (load PP 69 ej σ).bind fun ek=>
 (indexAddr PP 23 a k).bind fun eq=>
 (load PP 69 eq σ).bind fun ea=>
 (indexAddr PP 23 a k).bind fun cw=>
 (store PP lo 69 cw ek σ).bind fun σ16=>
 (indexAddr PP 23 a dc).bind fun dt=>
 (store PP lo 69 dt ea σ16).bind fun σ17=>
 (binOp PP .add 3 k I1).bind fun dr=>
 Qo G PP (pol 159) CC lo (.loop c159_78) a159_77 (a::b::c::d::zn 5 (i::g::Z::dr::zn 128 [])) σ17 (Qk 6 a159_76 (VT N0 (Qk 1 WI (seqC G PP (pol 159) CC lo Vj Vq (QY G PP (pol 159) CC lo Vk Vz (Qk 0 VK (seqC G PP (pol 159) CC lo WS WU (finR PP Tryz.f159.results.toList))))))))
 )
 )
 (
 N0 (f159_J1_fr a b c d i g Z Z Z Z Z Z Z Z Z Z Z Z Z Z Z Z Z Z Z Z Z Z Z Z Z Z Z Z Z Z Z Z Z Z Z Z Z Z Z Z Z Z Z Z Z Z Z Z Z Z Z Z Z Z Z Z Z Z Z Z Z Z Z Z Z Z Z Z Z Z Z Z Z Z Z Z Z Z Z Z Z Z Z Z Z Z Z Z Z Z Z Z Z Z Z Z Z Z Z Z Z Z Z Z) σ
 ):=(Qm G hG).trans (by kernel_rfl)
theorem f159_L3_eq (G:Qh) (hG:Qq G) (lo:Nat) (a b c d i g k:DV) (σ:Qa):f159_L3 G lo a b c d i g k σ =
 (binOp PP .lss 3 k c).bind fun di=>
 Qj di
 (
 (indexAddr PP 23 a k).bind fun dz=>
 (load PP 69 dz σ).bind fun cp=>
 (binOp PP .sub 3 k I1).bind fun dw=>
 (indexAddr PP 23 a dw).bind fun ce=>
 (load PP 69 ce σ).bind fun ei=>
 (Qi CC d [cp,ei] σ).bind fun ck=>
 (binOp PP .lss 3 ck I0).bind fun dl=>
 (unOp .not dl).bind fun en=>
 Qj en
 (
 f159_J1 G lo a b c d i g Z Z Z Z Z Z Z Z Z Z Z Z Z Z Z Z Z Z Z Z Z Z Z Z Z Z Z Z Z Z Z Z Z Z Z Z Z Z Z Z Z Z Z Z Z Z Z Z Z Z Z Z Z Z Z Z Z Z Z Z Z Z Z Z Z Z Z Z Z Z Z Z Z Z Z Z Z Z Z Z Z Z Z Z Z Z Z Z Z Z Z Z Z Z Z Z Z Z Z Z Z Z Z Z σ
 )
 (
 (binOp PP .sub 3 k I1).bind fun dc=>
 (binOp PP .sub 3 k I1).bind fun er=>
 (indexAddr PP 23 a er).bind fun ej=>
 (load PP 69 ej σ).bind fun ek=>
 (indexAddr PP 23 a k).bind fun eq=>
 (load PP 69 eq σ).bind fun ea=>
 (indexAddr PP 23 a k).bind fun cw=>
 (store PP lo 69 cw ek σ).bind fun σ16=>
 (indexAddr PP 23 a dc).bind fun dt=>
 (store PP lo 69 dt ea σ16).bind fun σ17=>
 (binOp PP .add 3 k I1).bind fun dr=>
 f159_L3 G lo a b c d i g dr σ17
 )
 )
 (
 f159_J1 G lo a b c d i g Z Z Z Z Z Z Z Z Z Z Z Z Z Z Z Z Z Z Z Z Z Z Z Z Z Z Z Z Z Z Z Z Z Z Z Z Z Z Z Z Z Z Z Z Z Z Z Z Z Z Z Z Z Z Z Z Z Z Z Z Z Z Z Z Z Z Z Z Z Z Z Z Z Z Z Z Z Z Z Z Z Z Z Z Z Z Z Z Z Z Z Z Z Z Z Z Z Z Z Z Z Z Z Z σ
 ):=by
 have h:=f159_L3_gen (N0:=(Qk 1 WI (seqC G PP (pol 159) CC lo Vj Vq (QY G PP (pol 159) CC lo Vk Vz (Qk 0 VK (seqC G PP (pol 159) CC lo WS WU (finR PP Tryz.f159.results.toList)))))) .normal) G hG lo a b c d i g k σ
 simp only [splitC_eta] at h
 exact h
theorem f159_J1_eq (G:Qh) (lo:Nat) (a b c d i g j k J C x B V ac P y Q M ba aw bb Y S T am be bp ao bc az bk bv bj bi br bf b8 cb dd bt b9 cv c9 N cm cd bm c8 bz ca cq n cz bg bq bl bn cr ch cn cu cg c7 ci cj cc bu dj db bh df ee dy dq dp ef dk dh di dg dr ai bw eg dz cp ct eh dw ce ei ck dl en co du eu da dc dx ew er ej ek et de eq ea cw dt:DV) (σ:Qa):f159_J1 G lo a b c d i g j k J C x B V ac P y Q M ba aw bb Y S T am be bp ao bc az bk bv bj bi br bf b8 cb dd bt b9 cv c9 N cm cd bm c8 bz ca cq n cz bg bq bl bn cr ch cn cu cg c7 ci cj cc bu dj db bh df ee dy dq dp ef dk dh di dg dr ai bw eg dz cp ct eh dw ce ei ck dl en co du eu da dc dx ew er ej ek et de eq ea cw dt σ =
 (binOp PP .add 3 g I1).bind fun R=>
 f159_L0 G lo a b c d i R σ:=by kernel_rfl
theorem F159_eq (G:Qh) (lo:Nat) (a b c d:DV) (σ:Qa):F159 G lo a b c d σ =
 (binOp PP .add 3 b I1).bind fun w=>
 f159_L0 G lo a b c d w I0 σ:=by kernel_rfl
theorem F159_call {lo:Nat} {a b c d:DV} (h:F159 Qb lo a b c d σ=some r):CC lo 159 [a,b,c,d] σ=some r:=
 callL_run Tryz.func159 (by decide +kernel) rfl (by decide +kernel) h
def c160_0:Code:=Qw Tryz.f160
def a160_0:Ann:=(pol 160).ann
def a160_7:Ann:=left (right (right (right a160_0)))
def a160_8:Ann:=left a160_7
def c160_9:Code:=fstC (fstC (fstC (sndC (sndC (sndC c160_0)))))
def a160_9:Ann:=left a160_8
def a160_11:Ann:=left (left a160_9)
def a160_12:Ann:=left a160_11
def c160_13:Code:=fstC (fstC (fstC (fstC c160_9)))
def c160_21:Code:=sndC (fstC c160_9)
def a160_21:Ann:=right (left a160_9)
def a160_22:Ann:=left a160_21
def a160_23:Ann:=left a160_22
def c160_24:Code:=fstC (fstC (fstC c160_21))
def c160_32:Code:=sndC c160_21
def a160_32:Ann:=right a160_21
def c160_43:Code:=sndC (sndC (sndC (sndC c160_0)))
def a160_43:Ann:=right (right (right (right a160_0)))
def f160_L0 (a b f j k:DV) (σ:Qa):RS:=
 Qo G PP (pol 160) CC lo (.loop c160_9) a160_8 (a::b::Z::Z::f::zn 6 (j::k::zn 77 [])) σ
 (Qk 0 a160_7 (seqC G PP (pol 160) CC lo c160_43 a160_43 (finR PP Tryz.f160.results.toList)))
def f160_L1 (a b f j k:DV) (σ:Qa):RS:=
 Qo G PP (pol 160) CC lo (.loop c160_13) a160_12 (a::b::Z::Z::f::zn 6 (j::k::zn 77 [])) σ
 (Qk 2 a160_11 (seqC G PP (pol 160) CC lo c160_21 a160_21 (Qk 1 a160_9 (QY G PP (pol 160) CC lo c160_9 a160_8 (Qk 0 a160_7 (seqC G PP (pol 160) CC lo c160_43 a160_43 (finR PP Tryz.f160.results.toList)))))))
def f160_L2 (a b f j k:DV) (σ:Qa):RS:=
 Qo G PP (pol 160) CC lo (.loop c160_24) a160_23 (a::b::Z::Z::f::zn 6 (j::k::zn 77 [])) σ
 (Qk 4 a160_22 (seqC G PP (pol 160) CC lo c160_32 a160_32 (Qk 1 a160_9 (QY G PP (pol 160) CC lo c160_9 a160_8 (Qk 0 a160_7 (seqC G PP (pol 160) CC lo c160_43 a160_43 (finR PP Tryz.f160.results.toList)))))))
def F160 (a b c d f:DV) (σ:Qa):RS:=
 Qo G PP (pol 160) CC lo c160_0 a160_0 (a::b::c::d::f::zn 85 []) σ (finR PP Tryz.f160.results.toList)
theorem f160_L0_eq (G:Qh) (hG:Qq G) (lo:Nat) (a b f j k:DV) (σ:Qa):f160_L0 G lo a b f j k σ =
 f160_L1 G lo a b f j k σ:=(Qm G hG).trans (by kernel_rfl)
theorem f160_L1_eq (G:Qh) (hG:Qq G) (lo:Nat) (a b f j k:DV) (σ:Qa):f160_L1 G lo a b f j k σ =
 (binOp PP .leq 3 j k).bind fun ae=>
 G _ ae true (some (f,σ)) σ fun aq σ3=>
 G _ ae true (some (a,σ3)) σ3 fun aj σ4=>
 G _ ae true (some (b,σ4)) σ4 fun ar σ5=>
 Gp G ae true (indexAddr PP 23 aj ar) σ5 fun aa σ6=>
 Gp G ae true (load PP 69 aa σ6) σ6 fun J σ7=>
 G _ ae true (some (a,σ7)) σ7 fun C σ8=>
 G _ ae true (some (j,σ8)) σ8 fun x σ9=>
 Gp G ae true (indexAddr PP 23 C x) σ9 fun B σ10=>
 Gp G ae true (load PP 69 B σ10) σ10 fun V σ11=>
 Gp G ae true (Qi CC aq [J,V] σ11) σ11 fun ac σ12=>
 Gp G ae true (binOp PP .lss 3 ac I0) σ12 fun P σ13=>
 Gp G ae true (unOp .not P) σ13 fun y σ14=>
 (Qt ae y (DV.p (PV.bool false))).bind fun Q=>
 Qj Q
 (
 (binOp PP .add 3 j I1).bind fun ba=>
 f160_L1 G lo a b f ba k σ14
 )
 (
 f160_L2 G lo a b f j k σ14
 ):=(Qm G hG).trans (by kernel_rfl)
theorem f160_L2_eq (G:Qh) (hG:Qq G) (lo:Nat) (a b f j k:DV) (σ:Qa):f160_L2 G lo a b f j k σ =
 (binOp PP .leq 3 j k).bind fun Y=>
 G _ Y true (some (f,σ)) σ fun T σ15=>
 G _ Y true (some (a,σ15)) σ15 fun am σ16=>
 G _ Y true (some (b,σ16)) σ16 fun be σ17=>
 Gp G Y true (indexAddr PP 23 am be) σ17 fun bp σ18=>
 Gp G Y true (load PP 69 bp σ18) σ18 fun ao σ19=>
 G _ Y true (some (a,σ19)) σ19 fun bc σ20=>
 G _ Y true (some (k,σ20)) σ20 fun az σ21=>
 Gp G Y true (indexAddr PP 23 bc az) σ21 fun bk σ22=>
 Gp G Y true (load PP 69 bk σ22) σ22 fun bv σ23=>
 Gp G Y true (Qi CC T [ao,bv] σ23) σ23 fun bj σ24=>
 Gp G Y true (binOp PP .lss 3 bj I0) σ24 fun bi σ25=>
 (Qt Y bi (DV.p (PV.bool false))).bind fun br=>
 Qj br
 (
 (binOp PP .sub 3 k I1).bind fun b8=>
 f160_L2 G lo a b f j b8 σ25
 )
 (
 (binOp PP .gtr 3 j k).bind fun bt=>
 Qj bt
 (
 some (j,σ25)
 )
 (
 (indexAddr PP 23 a k).bind fun bm=>
 (load PP 69 bm σ25).bind fun c8=>
 (indexAddr PP 23 a j).bind fun cq=>
 (load PP 69 cq σ25).bind fun n=>
 (indexAddr PP 23 a j).bind fun cz=>
 (store PP lo 69 cz c8 σ25).bind fun σ26=>
 (indexAddr PP 23 a k).bind fun bg=>
 (store PP lo 69 bg n σ26).bind fun σ27=>
 (binOp PP .add 3 j I1).bind fun bl=>
 (binOp PP .sub 3 k I1).bind fun cr=>
 f160_L0 G lo a b f bl cr σ27
 )
 ):=(Qm G hG).trans (by kernel_rfl)
theorem F160_eq (G:Qh) (lo:Nat) (a b c d f:DV) (σ:Qa):F160 G lo a b c d f σ =
 (indexAddr PP 23 a d).bind fun av=>
 (load PP 69 av σ).bind fun L=>
 (indexAddr PP 23 a b).bind fun u=>
 (load PP 69 u σ).bind fun I=>
 (indexAddr PP 23 a b).bind fun A=>
 (store PP lo 69 A L σ).bind fun σ1=>
 (indexAddr PP 23 a d).bind fun ah=>
 (store PP lo 69 ah I σ1).bind fun σ2=>
 (binOp PP .add 3 b I1).bind fun au=>
 (binOp PP .sub 3 c I1).bind fun ak=>
 f160_L0 G lo a b f au ak σ2:=by kernel_rfl
theorem F160_call {lo:Nat} {a b c d f:DV} (h:F160 Qb lo a b c d f σ=some r):CC lo 160 [a,b,c,d,f] σ=some r:=
 callL_run Tryz.func160 (by decide +kernel) rfl (by decide +kernel) h
def c161_0:Code:=Qw Tryz.f161
def a161_0:Ann:=(pol 161).ann
def a161_7:Ann:=left (right (right (right a161_0)))
def a161_8:Ann:=left a161_7
def c161_9:Code:=fstC (fstC (fstC (sndC (sndC (sndC c161_0)))))
def c161_17:Code:=sndC (sndC (sndC (sndC c161_0)))
def a161_17:Ann:=right (right (right (right a161_0)))
def a161_18:Ann:=left a161_17
def a161_19:Ann:=left a161_18
def c161_20:Code:=fstC (fstC (fstC c161_17))
def c161_28:Code:=sndC c161_17
def a161_28:Ann:=right a161_17
def a161_45:Ann:=left (right (right (right (right a161_28))))
def a161_46:Ann:=left a161_45
def c161_47:Code:=fstC (fstC (fstC (sndC (sndC (sndC (sndC c161_28))))))
def a161_47:Ann:=left a161_46
def a161_49:Ann:=left (left a161_47)
def a161_50:Ann:=left a161_49
def c161_51:Code:=fstC (fstC (fstC (fstC c161_47)))
def c161_59:Code:=sndC (fstC c161_47)
def a161_59:Ann:=right (left a161_47)
def a161_60:Ann:=left a161_59
def a161_61:Ann:=left a161_60
def c161_62:Code:=fstC (fstC (fstC c161_59))
def c161_70:Code:=sndC c161_59
def a161_70:Ann:=right a161_59
def c161_81:Code:=sndC (sndC (sndC (sndC (sndC c161_28))))
def a161_81:Ann:=right (right (right (right (right a161_28))))
def f161_L0 (a b f k q:DV) (σ:Qa):RS:=
 Qo G PP (pol 161) CC lo (.loop c161_9) a161_8 (a::b::Z::Z::f::zn 7 (k::q::zn 164 [])) σ
 (Qk 0 a161_7 (seqC G PP (pol 161) CC lo c161_17 a161_17 (finR PP Tryz.f161.results.toList)))
def f161_L1 (a b f k q:DV) (σ:Qa):RS:=
 Qo G PP (pol 161) CC lo (.loop c161_20) a161_19 (a::b::Z::Z::f::zn 7 (k::q::zn 164 [])) σ
 (Qk 2 a161_18 (seqC G PP (pol 161) CC lo c161_28 a161_28 (finR PP Tryz.f161.results.toList)))
def f161_L2 (a b f k q:DV) (σ:Qa):RS:=
 Qo G PP (pol 161) CC lo (.loop c161_47) a161_46 (a::b::Z::Z::f::zn 7 (k::q::zn 164 [])) σ
 (Qk 4 a161_45 (seqC G PP (pol 161) CC lo c161_81 a161_81 (finR PP Tryz.f161.results.toList)))
def f161_L3 (a b f k q:DV) (σ:Qa):RS:=
 Qo G PP (pol 161) CC lo (.loop c161_51) a161_50 (a::b::Z::Z::f::zn 7 (k::q::zn 164 [])) σ
 (Qk 6 a161_49 (seqC G PP (pol 161) CC lo c161_59 a161_59 (Qk 5 a161_47 (QY G PP (pol 161) CC lo c161_47 a161_46 (Qk 4 a161_45 (seqC G PP (pol 161) CC lo c161_81 a161_81 (finR PP Tryz.f161.results.toList)))))))
def f161_L4 (a b f k q:DV) (σ:Qa):RS:=
 Qo G PP (pol 161) CC lo (.loop c161_62) a161_61 (a::b::Z::Z::f::zn 7 (k::q::zn 164 [])) σ
 (Qk 8 a161_60 (seqC G PP (pol 161) CC lo c161_70 a161_70 (Qk 5 a161_47 (QY G PP (pol 161) CC lo c161_47 a161_46 (Qk 4 a161_45 (seqC G PP (pol 161) CC lo c161_81 a161_81 (finR PP Tryz.f161.results.toList)))))))
def F161 (a b c d f:DV) (σ:Qa):RS:=
 Qo G PP (pol 161) CC lo c161_0 a161_0 (a::b::c::d::f::zn 173 []) σ (finR PP Tryz.f161.results.toList)
theorem f161_L0_eq (G:Qh) (hG:Qq G) (lo:Nat) (a b f k q:DV) (σ:Qa):f161_L0 G lo a b f k q σ =
 (binOp PP .leq 3 k q).bind fun X=>
 G _ X true (some (f,σ)) σ fun aj σ3=>
 G _ X true (some (a,σ3)) σ3 fun ar σ4=>
 G _ X true (some (k,σ4)) σ4 fun aa σ5=>
 Gp G X true (indexAddr PP 23 ar aa) σ5 fun J σ6=>
 Gp G X true (load PP 69 J σ6) σ6 fun C σ7=>
 G _ X true (some (a,σ7)) σ7 fun x σ8=>
 G _ X true (some (b,σ8)) σ8 fun B σ9=>
 Gp G X true (indexAddr PP 23 x B) σ9 fun V σ10=>
 Gp G X true (load PP 69 V σ10) σ10 fun ac σ11=>
 Gp G X true (Qi CC aj [C,ac] σ11) σ11 fun P σ12=>
 Gp G X true (binOp PP .lss 3 P I0) σ12 fun y σ13=>
 (Qt X y (DV.p (PV.bool false))).bind fun Q=>
 Qj Q
 (
 (binOp PP .add 3 k I1).bind fun ba=>
 f161_L0 G lo a b f ba q σ13
 )
 (
 f161_L1 G lo a b f k q σ13
 ):=(Qm G hG).trans (by kernel_rfl)
theorem f161_L1_eq (G:Qh) (hG:Qq G) (lo:Nat) (a b f k q:DV) (σ:Qa):f161_L1 G lo a b f k q σ =
 (binOp PP .leq 3 k q).bind fun Y=>
 G _ Y true (some (f,σ)) σ fun T σ14=>
 G _ Y true (some (a,σ14)) σ14 fun am σ15=>
 G _ Y true (some (q,σ15)) σ15 fun be σ16=>
 Gp G Y true (indexAddr PP 23 am be) σ16 fun bp σ17=>
 Gp G Y true (load PP 69 bp σ17) σ17 fun ao σ18=>
 G _ Y true (some (a,σ18)) σ18 fun bc σ19=>
 G _ Y true (some (b,σ19)) σ19 fun az σ20=>
 Gp G Y true (indexAddr PP 23 bc az) σ20 fun bk σ21=>
 Gp G Y true (load PP 69 bk σ21) σ21 fun bv σ22=>
 Gp G Y true (Qi CC T [ao,bv] σ22) σ22 fun bj σ23=>
 Gp G Y true (binOp PP .lss 3 bj I0) σ23 fun bi σ24=>
 Gp G Y true (unOp .not bi) σ24 fun br σ25=>
 (Qt Y br (DV.p (PV.bool false))).bind fun bf=>
 Qj bf
 (
 (binOp PP .sub 3 q I1).bind fun cb=>
 f161_L1 G lo a b f k cb σ25
 )
 (
 (binOp PP .gtr 3 k q).bind fun b9=>
 Qj b9
 (
 (indexAddr PP 23 a b).bind fun c8=>
 (load PP 69 c8 σ25).bind fun bz=>
 (indexAddr PP 23 a q).bind fun n=>
 (load PP 69 n σ25).bind fun cz=>
 (indexAddr PP 23 a q).bind fun bg=>
 (store PP lo 69 bg bz σ25).bind fun σ26=>
 (indexAddr PP 23 a b).bind fun bq=>
 (store PP lo 69 bq cz σ26).bind fun σ27=>
 some ((DV.tuple [q,(DV.p (PV.bool true))]),σ27)
 )
 (
 (indexAddr PP 23 a q).bind fun c7=>
 (load PP 69 c7 σ25).bind fun ci=>
 (indexAddr PP 23 a k).bind fun bu=>
 (load PP 69 bu σ25).bind fun dj=>
 (indexAddr PP 23 a k).bind fun db=>
 (store PP lo 69 db ci σ25).bind fun σ28=>
 (indexAddr PP 23 a q).bind fun bh=>
 (store PP lo 69 bh dj σ28).bind fun σ29=>
 (binOp PP .add 3 k I1).bind fun ee=>
 (binOp PP .sub 3 q I1).bind fun dq=>
 f161_L2 G lo a b f ee dq σ29
 )
 ):=(Qm G hG).trans (by kernel_rfl)
theorem f161_L2_eq (G:Qh) (hG:Qq G) (lo:Nat) (a b f k q:DV) (σ:Qa):f161_L2 G lo a b f k q σ =
 f161_L3 G lo a b f k q σ:=(Qm G hG).trans (by kernel_rfl)
theorem f161_L3_eq (G:Qh) (hG:Qq G) (lo:Nat) (a b f k q:DV) (σ:Qa):f161_L3 G lo a b f k q σ =
 (binOp PP .leq 3 k q).bind fun dk=>
 G _ dk true (some (f,σ)) σ fun di σ30=>
 G _ dk true (some (a,σ30)) σ30 fun dg σ31=>
 G _ dk true (some (k,σ31)) σ31 fun dr σ32=>
 Gp G dk true (indexAddr PP 23 dg dr) σ32 fun ai σ33=>
 Gp G dk true (load PP 69 ai σ33) σ33 fun bw σ34=>
 G _ dk true (some (a,σ34)) σ34 fun eg σ35=>
 G _ dk true (some (b,σ35)) σ35 fun dz σ36=>
 Gp G dk true (indexAddr PP 23 eg dz) σ36 fun cp σ37=>
 Gp G dk true (load PP 69 cp σ37) σ37 fun ct σ38=>
 Gp G dk true (Qi CC di [bw,ct] σ38) σ38 fun eh σ39=>
 Gp G dk true (binOp PP .lss 3 eh I0) σ39 fun dw σ40=>
 (Qt dk dw (DV.p (PV.bool false))).bind fun ce=>
 Qj ce
 (
 (binOp PP .add 3 k I1).bind fun ck=>
 f161_L3 G lo a b f ck q σ40
 )
 (
 f161_L4 G lo a b f k q σ40
 ):=(Qm G hG).trans (by kernel_rfl)
theorem f161_L4_eq (G:Qh) (hG:Qq G) (lo:Nat) (a b f k q:DV) (σ:Qa):f161_L4 G lo a b f k q σ =
 (binOp PP .leq 3 k q).bind fun co=>
 G _ co true (some (f,σ)) σ fun eu σ41=>
 G _ co true (some (a,σ41)) σ41 fun da σ42=>
 G _ co true (some (q,σ42)) σ42 fun dc σ43=>
 Gp G co true (indexAddr PP 23 da dc) σ43 fun dx σ44=>
 Gp G co true (load PP 69 dx σ44) σ44 fun ew σ45=>
 G _ co true (some (a,σ45)) σ45 fun er σ46=>
 G _ co true (some (b,σ46)) σ46 fun ej σ47=>
 Gp G co true (indexAddr PP 23 er ej) σ47 fun ek σ48=>
 Gp G co true (load PP 69 ek σ48) σ48 fun et σ49=>
 Gp G co true (Qi CC eu [ew,et] σ49) σ49 fun de σ50=>
 Gp G co true (binOp PP .lss 3 de I0) σ50 fun eq σ51=>
 Gp G co true (unOp .not eq) σ51 fun ea σ52=>
 (Qt co ea (DV.p (PV.bool false))).bind fun cw=>
 Qj cw
 (
 (binOp PP .sub 3 q I1).bind fun fe=>
 f161_L4 G lo a b f k fe σ52
 )
 (
 (binOp PP .gtr 3 k q).bind fun ez=>
 Qj ez
 (
 (indexAddr PP 23 a b).bind fun fc=>
 (load PP 69 fc σ52).bind fun f5=>
 (indexAddr PP 23 a q).bind fun fy=>
 (load PP 69 fy σ52).bind fun fa=>
 (indexAddr PP 23 a q).bind fun gg=>
 (store PP lo 69 gg f5 σ52).bind fun σ53=>
 (indexAddr PP 23 a b).bind fun fz=>
 (store PP lo 69 fz fa σ53).bind fun σ54=>
 some ((DV.tuple [q,(DV.p (PV.bool false))]),σ54)
 )
 (
 (indexAddr PP 23 a q).bind fun fj=>
 (load PP 69 fj σ52).bind fun fk=>
 (indexAddr PP 23 a k).bind fun f6=>
 (load PP 69 f6 σ52).bind fun f7=>
 (indexAddr PP 23 a k).bind fun fb=>
 (store PP lo 69 fb fk σ52).bind fun σ55=>
 (indexAddr PP 23 a q).bind fun fw=>
 (store PP lo 69 fw f7 σ55).bind fun σ56=>
 (binOp PP .add 3 k I1).bind fun f8=>
 (binOp PP .sub 3 q I1).bind fun fo=>
 f161_L2 G lo a b f f8 fo σ56
 )
 ):=(Qm G hG).trans (by kernel_rfl)
theorem F161_eq (G:Qh) (lo:Nat) (a b c d f:DV) (σ:Qa):F161 G lo a b c d f σ =
 (indexAddr PP 23 a d).bind fun L=>
 (load PP 69 L σ).bind fun t=>
 (indexAddr PP 23 a b).bind fun I=>
 (load PP 69 I σ).bind fun A=>
 (indexAddr PP 23 a b).bind fun ah=>
 (store PP lo 69 ah t σ).bind fun σ1=>
 (indexAddr PP 23 a d).bind fun W=>
 (store PP lo 69 W A σ1).bind fun σ2=>
 (binOp PP .add 3 b I1).bind fun af=>
 (binOp PP .sub 3 c I1).bind fun E=>
 f161_L0 G lo a b f af E σ2:=by kernel_rfl
theorem F161_call {lo:Nat} {a b c d f:DV} (h:F161 Qb lo a b c d f σ=some r):CC lo 161 [a,b,c,d,f] σ=some r:=
 callL_run Tryz.func161 (by decide +kernel) rfl (by decide +kernel) h
end
end Go.D
end
/- Sorting by the library's pdqsort over elements of type 69: the program's functions do what Go.D.Srt says. -/
section
set_option linter.unusedVariables false
set_option linter.unusedSimpArgs false
namespace Go.D.StT
open Go.D.Srt
abbrev E:Type:=Edg
def cel (e:E):List DV:=[.p (.int .i64 e.f),.p (.int .i64 e.t),.p (.int .i64 e.a)]
def val (e:E):DV:=.agg (cel e)
def cels (A:List E):List DV:=A.flatMap cel
theorem ZN (e:E):(cel e).length=3:=rfl
theorem cel_one (e:E):(cel e).all DV.one=true:=rfl
theorem Va (A:List E):(cels A).length=A.length*3:=by
  induction A with
  | nil=>rfl
  | cons a A ih=>
    have e:cels (a::A)=cel a++cels A:=rfl
    rw [e,List.length_append,ih,ZN,List.length_cons]; omega
theorem cels_app (A B:List E):cels (A++B)=cels A++cels B:=by simp [cels]
theorem Uk {A:List E} {i:Nat} (h:i<A.length):cels A=cels (A.take i)++(cel (ge A i)++cels (A.drop (i+1))):=by
  have e1:A=A.take i++(ge A i::A.drop (i+1)):=by
    have e2:ge A i=A[i]:=by unfold ge; rw [List.getD_eq_getElem?_getD,List.getElem?_eq_getElem h]; rfl
    rw [e2,←List.drop_eq_getElem_cons h,List.take_append_drop]
  have e3:cels (ge A i::A.drop (i+1))=cel (ge A i)++cels (A.drop (i+1)):=rfl
  rw [←e3,←cels_app,←e1]
theorem Wo {A:List E} {i:Nat} (h:i<A.length):(cels (A.take i)).length=i*3:=by
  rw [Va,List.length_take,Nat.min_eq_left (by omega)]
theorem cels_get {A:List E} {i:Nat} (h:i<A.length):((cels A).drop (i*3)).take 3=cel (ge A i):=by
  rw [Uk h,←Wo h,List.drop_left,List.take_append_of_le_length (by rw [ZN]; exact Nat.le_refl _),List.take_of_length_le (by rw [ZN]; exact Nat.le_refl _)]
theorem cels_set {A:List E} {i:Nat} (h:i<A.length) (v:E):QS (cels A) (i*3) (cel v)=cels (A.set i v):=by
  have h2:i<(A.set i v).length:=by rw [List.length_set]; exact h
  rw [Uk h2,ge_set h,if_pos rfl,List.take_set_of_le (Nat.le_refl _),List.drop_set_of_lt (by omega)]
  unfold QS
  rw [Uk h,List.take_append_of_le_length (by rw [Wo h]; exact Nat.le_refl _),List.take_of_length_le (by rw [Wo h]; exact Nat.le_refl _),List.append_assoc]
  congr 2
  rw [←List.append_assoc,List.drop_append_of_le_length (by rw [List.length_append,Wo h,ZN,ZN]; exact Nat.le_refl _),List.drop_of_length_le (by rw [List.length_append,Wo h,ZN,ZN]; exact Nat.le_refl _),List.nil_append]
def W (σ:Qa) (r:Nat) (A:List E):Qa:=σ.set r (.mix (cels A))
theorem Jq {σ:Qa} {r:Nat} (hr:r<σ.length) (A:List E):(W σ r A)[r]?=some (.mix (cels A)):=by rw [W,List.getElem?_set_self hr]
theorem W_eq {σ:Qa} {r:Nat} {A:List E} (h:σ[r]?=some (.mix (cels A))):W σ r A=σ:=by
  refine List.ext_getElem? fun i=>?_
  rw [W]
  by_cases e:r=i
  · subst e; rw [List.getElem?_set_self (QW h),h]
  · rw [List.getElem?_set_ne e]
theorem W_len (σ:Qa) (r:Nat) (A:List E):(W σ r A).length=σ.length:=by simp [W]
theorem W_snoc {σ:Qa} {r:Nat} (hr:r<σ.length) (A:List E) (row:Row):W σ r A++[row]=W (σ++[row]) r A:=by
  rw [W,W,List.set_append_left _ _ hr]
theorem uL:PP.underlying 23=some (.slice 69):=Eq.trans (by kernel_rfl) rfl
theorem sE:size? PP 69=some 3:=Eq.trans (by kernel_rfl) rfl
theorem loadE (x:DV) (σ:Qa):load PP 69 x σ=(Wh σ 3 x).map .agg:=Eq.trans (by kernel_rfl) rfl
theorem idxL {r n i:Nat} (h:i<n):indexAddr PP 23 (.rsl r 3 0 n) (.p (pI (i:Nat)))=some (.ptr r (i*3)):=by
  have h2:(0:Int)≤(i:Int)∧(i:Int)<(n:Nat):=by omega
  simp [indexAddr,uL,sE,h2]
theorem ldW {σ:Qa} {r i:Nat} {A:List E} (hr:r<σ.length) (h:i<A.length):load PP 69 (.ptr r (i*3)) (W σ r A)=some (val (ge A i)):=by
  rw [loadE,QK (Jq hr A) (cels_get h) (by rw [Va]; omega)]; rfl
theorem stW {σ:Qa} {r i lo:Nat} {A:List E} (hr:r<σ.length) (h:i<A.length) (hlo:lo≤r) (v:E):store PP lo 69 (.ptr r (i*3)) (val v) (W σ r A)=some (W σ r (A.set i v)):=by
  have e1:(val v).cells=cel v:=rfl
  have e2:i*3+3≤(cels A).length:=by rw [Va]; omega
  simp only [store,sE,e1,ZN,if_true,Zs,hlo,Jq hr,cel_one,e2,decide_true,Bool.and_self,cels_set h]
  rw [W,W,List.set_set]
theorem QT (A:List E) (i:Nat) (v:E):(A.set i v).length=A.length:=List.length_set
theorem add1 {a:Nat} (h:a≤1000000):binOp PP .add 3 (.p (.int .i64 (a:Nat))) (.p (.int .i64 1))=some (.p (.int .i64 ((a+1:Nat):Int))):=by
  rw [ZX,QL (by omega) (by omega)]; rfl
theorem sub1 {a:Nat} (h0:0<a) (h:a≤1000000):binOp PP .sub 3 (.p (.int .i64 (a:Nat))) (.p (.int .i64 1))=some (.p (.int .i64 ((a-1:Nat):Int))):=by
  rw [Vo,QL (by omega) (by omega)]
  congr 3
  omega
theorem addN {a b:Nat} (h:a+b≤1000000):binOp PP .add 3 (.p (.int .i64 (a:Nat))) (.p (.int .i64 (b:Nat)))=some (.p (.int .i64 ((a+b:Nat):Int))):=by
  rw [ZX,QL (by omega) (by omega)]; rfl
theorem subN {a b:Nat} (h0:b≤a) (h:a≤1000000):binOp PP .sub 3 (.p (.int .i64 (a:Nat))) (.p (.int .i64 (b:Nat)))=some (.p (.int .i64 ((a-b:Nat):Int))):=by
  rw [Vo,QL (by omega) (by omega)]
  congr 3
  omega
theorem mul2 {a:Nat} (h:a≤1000000):binOp PP .mul 3 (.p (.int .i64 2)) (.p (.int .i64 (a:Nat)))=some (.p (.int .i64 ((2*a:Nat):Int))):=by
  rw [b_mul,QL (by omega) (by omega)]
  congr 3
theorem ltT {a b:Int} (h:a<b):decide (a<b)=true:=decide_eq_true h
theorem ltF {a b:Int} (h:¬ a<b):decide (a<b)=false:=decide_eq_false h
theorem leT {a b:Int} (h:a≤b):decide (a≤b)=true:=decide_eq_true h
theorem leF {a b:Int} (h:¬ a≤b):decide (a≤b)=false:=decide_eq_false h
theorem gtT {a b:Int} (h:a>b):decide (a>b)=true:=decide_eq_true h
theorem gtF {a b:Int} (h:¬ a>b):decide (a>b)=false:=decide_eq_false h
theorem geT {a b:Int} (h:a≥b):decide (a≥b)=true:=decide_eq_true h
theorem geF {a b:Int} (h:¬ a≥b):decide (a≥b)=false:=decide_eq_false h
theorem eqT {a b:Int} (h:a=b):decide (a=b)=true:=decide_eq_true h
theorem eqF {a b:Int} (h:¬ a=b):decide (a=b)=false:=decide_eq_false h
section
variable {cf : FuncId} {cmp : E → E → Int} (hc : ∀ (x y : E) (σ : Qa), Qx CC cf [val x, val y] σ = some (.p (.int .i64 (cmp x y))))
variable {r n lo : Nat} {σ : Qa}
def ltc (cmp:E→E→Int) (x y:E):Bool:=decide (cmp x y<0)
abbrev V (r n:Nat):DV:=.rsl r 3 0 n
abbrev N (i:Nat):DV:=.p (.int .i64 (i:Int))
include hc in
theorem ins_L1 (hr:r<σ.length) (hlo:lo≤r) (hn:n≤100000) {a b i:Nat} (hi:i≤100000):∀ (j:Nat) (A:List E),a≤j→j<n→A.length=n→
    f154_L1 Qb lo (V r n) (N a) (N b) (.fn cf []) (N i) (N j) (W σ r A)=f154_L0 Qb lo (V r n) (N a) (N b) (.fn cf []) (N (i+1)) (W σ r (Zb (ltc cmp) a j A))
  | 0,A,ha,hj,hA=>by
    rw [f154_L1_eq Qb rfl]
    simp (disch:=omega) only [V,N,Zi,gtF,gG,add1,Zb]
  | j+1,A,ha,hj,hA=>by
    rw [f154_L1_eq Qb rfl]
    by_cases h1:a<j+1
    · by_cases h2:cmp (ge A (j+1)) (ge A j)<0
      · have ih:=ins_L1 hr hlo hn (a:=a) (b:=b) hi j (swp A (j+1) j) (by omega) (by omega) (by rw [QA]; exact hA)
        have e:Zb (ltc cmp) a (j+1) A=Zb (ltc cmp) a j (swp A (j+1) j):=by
          rw [Zb,if_pos ⟨h1,decide_eq_true h2⟩]
        have h3:(A.set (j+1) (ge A j)).length=n:=by rw [QT]; exact hA
        rw [e,←ih]
        simp (disch:=omega) only [V,N,Zi,gtT,gG,sub1,idxL,ldW,Nat.add_sub_cancel,Qc,List.append_nil,hc,Qp,ltT,stW,swp]
      · have e:Zb (ltc cmp) a (j+1) A=A:=by
          rw [Zb,if_neg (fun h=>h2 (of_decide_eq_true h.2))]
        rw [e]
        simp (disch:=omega) only [V,N,Zi,gtT,gG,sub1,idxL,ldW,Nat.add_sub_cancel,Qc,List.append_nil,hc,Qp,ltF,add1]
    · have e:Zb (ltc cmp) a (j+1) A=A:=by
        rw [Zb,if_neg (fun h=>h1 h.1)]
      rw [e]
      simp (disch:=omega) only [V,N,Zi,gtF,gG,add1]
theorem Vg (lt:E→E→Bool) (a:Nat):∀ (j:Nat) (A:List E),(Zb lt a j A).length=A.length
  | 0,A=>rfl
  | j+1,A=>by
    unfold Zb
    split
    · rw [Vg lt a j,QA]
    · rfl
include hc in
theorem ins_L0 (hr:r<σ.length) (hlo:lo≤r) (hn:n≤100000) {a b:Nat} (hb:b≤n):∀ (k i:Nat) (A:List E),b-i=k→a≤i→A.length=n→
    f154_L0 Qb lo (V r n) (N a) (N b) (.fn cf []) (N i) (W σ r A)=some (.tuple [],W σ r (Vf (ltc cmp) a (b-i) i A))
  | 0,i,A,hk,ha,hA=>by
    rw [f154_L0_eq Qb rfl,hk]
    simp (disch:=omega) only [V,N,Qp,ltF,gG,Vf]
  | k+1,i,A,hk,ha,hA=>by
    rw [f154_L0_eq Qb rfl]
    have h:=ins_L1 hc hr hlo hn (a:=a) (b:=b) (i:=i) (by omega) i A ha (by omega) hA
    have ih:=ins_L0 hr hlo hn (a:=a) hb k (i+1) (Zb (ltc cmp) a i A) (by omega) (by omega) (by rw [Vg]; exact hA)
    have e:Vf (ltc cmp) a (b-i) i A=Vf (ltc cmp) a (b-(i+1)) (i+1) (Zb (ltc cmp) a i A):=by
      rw [show b-i=(b-(i+1))+1 by omega,Vf]
    rw [e,←ih,←h]
    simp (disch:=omega) only [V,N,Qp,ltT,gG]
include hc in
theorem ins_ok (hr:r<σ.length) (hlo:lo≤r) (hn:n≤100000) {a b:Nat} (hb:b≤n) (ha:a≤n) (A:List E) (hA:A.length=n) :
    CC lo 154 [V r n,N a,N b,.fn cf []] (W σ r A)=some (.tuple [],W σ r (Vf (ltc cmp) a (b-(a+1)) (a+1) A)):=by
  refine F154_call ?_
  rw [F154_eq]
  simp (disch:=omega) only [N,add1,gG]
  exact ins_L0 hc hr hlo hn hb _ (a+1) A rfl (by omega) hA
end
end Go.D.StT
end
/- Heap sort over elements of type 69. -/
section
set_option linter.unusedVariables false
set_option linter.unusedSimpArgs false
namespace Go.D.StT
open Go.D.Srt
section
variable {cf : FuncId} {cmp : E → E → Int} (hc : ∀ (x y : E) (σ : Qa), Qx CC cf [val x, val y] σ = some (.p (.int .i64 (cmp x y))))
variable {r n lo : Nat} {σ : Qa}
include hc in
theorem Jg (hr:r<σ.length) (hlo:lo≤r) (hn:n≤100000) {f hi root c:Nat} (hf:f+hi≤n) (h1:root<hi) (h2:c<hi) (A:List E) (hA:A.length=n) (x13 x14 x15 x16 x17 x18 x19 x20 x21 x22 x23 x24 x25 x26 x27 x28 x29 x30 x31 x32 x33 x34 x35 x36 x37 x38 x39 x40 x41 x42:DV) :
    f164_J0 Qb lo (V r n) (N hi) (N f) (.fn cf []) (N root) (N c) x13 x14 x15 x16 x17 x18 x19 x20 x21 x22 x23 x24 x25 x26 x27 x28 x29 x30 x31 x32 x33 x34 x35 x36 x37 x38 x39 x40 x41 x42 (W σ r A) =
      if ltc cmp (ge A (f+root)) (ge A (f+c))=true then f164_L0 Qb lo (V r n) (N hi) (N f) (.fn cf []) (N c) (W σ r (swp A (f+root) (f+c))) else some (.tuple [],W σ r A):=by
  rw [f164_J0_eq Qb]
  have h3:(A.set (f+root) (ge A (f+c))).length=n:=by rw [QT]; exact hA
  by_cases h:cmp (ge A (f+root)) (ge A (f+c))<0
  · rw [if_pos (show ltc cmp _ _=true from decide_eq_true h)]
    simp (disch:=omega) only [V,N,addN,gG,idxL,ldW,Qc,List.append_nil,hc,Qp,ltT,stW,swp]
  · rw [if_neg (show ¬ ltc cmp _ _=true from fun e=>h (of_decide_eq_true e))]
    simp (disch:=omega) only [V,N,addN,gG,idxL,ldW,Qc,List.append_nil,hc,Qp,ltF,stW,swp]
include hc in
theorem UU (hr:r<σ.length) (hlo:lo≤r) (hn:n≤100000) {f hi:Nat} (hf:f+hi≤n):∀ (k root:Nat) (A:List E),hi-root≤k→root≤100000→A.length=n→
    f164_L0 Qb lo (V r n) (N hi) (N f) (.fn cf []) (N root) (W σ r A)=some (.tuple [],W σ r (sift (ltc cmp) f hi k root A))
  | 0,root,A,hk,hro,hA=>by
    rw [f164_L0_eq Qb rfl]
    simp (disch:=omega) only [V,N,mul2,add1,Zm,geT,gG,sift]
  | k+1,root,A,hk,hro,hA=>by
    rw [f164_L0_eq Qb rfl]
    by_cases h0:hi≤2*root+1
    · rw [sift,if_pos h0]
      simp (disch:=omega) only [V,N,mul2,add1,Zm,geT,gG]
    · have e1:f+(2*root+1)+1=f+(2*root+2):=rfl
      have e2:2*root+1+1=2*root+2:=rfl
      by_cases h1:2*root+2<hi
      · by_cases h2:cmp (ge A (f+(2*root+1))) (ge A (f+(2*root+2)))<0
        · have ih:=UU hr hlo hn hf k (2*root+2) (swp A (f+root) (f+(2*root+2))) (by omega) (by omega) (by rw [QA]; exact hA)
          rw [sift,if_neg h0]
          simp only [h1,show ltc cmp (ge A (f+(2*root+1))) (ge A (f+(2*root+2)))=true from decide_eq_true h2,and_self,if_true]
          simp (disch:=omega) only [V,N,mul2,add1,e1,e2,addN,Zm,geF,Qp,ltT,idxL,ldW,Qc,List.append_nil,hc,gG]
          refine (Jg hc hr hlo hn hf (by omega) h1 A hA _ _ _ _ _ _ _ _ _ _ _ _ _ _ _ _ _ _ _ _ _ _ _ _ _ _ _ _ _ _).trans ?_
          split
          · exact ih
          · rfl
        · have ih:=UU hr hlo hn hf k (2*root+1) (swp A (f+root) (f+(2*root+1))) (by omega) (by omega) (by rw [QA]; exact hA)
          rw [sift,if_neg h0]
          simp only [h1,show ltc cmp (ge A (f+(2*root+1))) (ge A (f+(2*root+2)))=false from decide_eq_false h2,Bool.false_eq_true,and_false,if_false]
          simp (disch:=omega) only [V,N,mul2,add1,e1,e2,addN,Zm,geF,Qp,ltT,ltF,idxL,ldW,Qc,List.append_nil,hc,gG]
          refine (Jg hc hr hlo hn hf (by omega) (show 2*root+1<hi by omega) A hA _ _ _ _ _ _ _ _ _ _ _ _ _ _ _ _ _ _ _ _ _ _ _ _ _ _ _ _ _ _).trans ?_
          split
          · exact ih
          · rfl
      · have ih:=UU hr hlo hn hf k (2*root+1) (swp A (f+root) (f+(2*root+1))) (by omega) (by omega) (by rw [QA]; exact hA)
        rw [sift,if_neg h0]
        simp only [h1,false_and,if_false]
        simp (disch:=omega) only [V,N,mul2,add1,e1,e2,addN,Zm,geF,Qp,ltF,gG]
        refine (Jg hc hr hlo hn hf (by omega) (show 2*root+1<hi by omega) A hA _ _ _ _ _ _ _ _ _ _ _ _ _ _ _ _ _ _ _ _ _ _ _ _ _ _ _ _ _ _).trans ?_
        split
        · exact ih
        · rfl
theorem WY (lt:E→E→Bool) (f hi:Nat):∀ (k root:Nat) (A:List E),(sift lt f hi k root A).length=A.length
  | 0,root,A=>rfl
  | k+1,root,A=>by
    unfold sift
    split
    · rfl
    · simp only
      generalize (if 2*root+2<hi∧lt (ge A (f+(2*root+1))) (ge A (f+(2*root+2)))=true then 2*root+2 else 2*root+1)=c
      split
      · rw [WY lt f hi k,QA]
      · rfl
include hc in
theorem Jf (hr:r<σ.length) (hlo:lo≤r) (hn:n≤100000) {f hi root:Nat} (hf:f+hi≤n) (hro:root≤100000) (A:List E) (hA:A.length=n) :
    CC lo 164 [V r n,N root,N hi,N f,.fn cf []] (W σ r A)=some (.tuple [],W σ r (sift (ltc cmp) f hi hi root A)):=by
  refine F164_call ?_
  rw [F164_eq]
  exact UU hc hr hlo hn hf hi root A (by omega) hro hA
theorem sub1_0:binOp PP .sub 3 (.p (.int .i64 ((0:Nat):Int))) (.p (.int .i64 1))=some (.p (.int .i64 (-1))):=by
  rw [Vo]; rfl
include hc in
theorem hs_L1 (hr:r<σ.length) (hlo:lo≤r) (hn:n≤100000) {f m:Nat}:∀ (i:Nat) (A:List E),i≤n→(0<i→f+i≤n)→A.length=n→
    f155_L1 Qb lo (V r n) (.fn cf []) (N f) (N 0) (.p (.int .i64 ((i:Int)-1))) (W σ r A)=some (.tuple [],W σ r (hpB (ltc cmp) f i A))
  | 0,A,hi,hf,hA=>by
    rw [f155_L1_eq Qb rfl]
    simp (disch:=omega) only [N,Zm,geF,gG,hpB]
  | i+1,A,hi,hf,hA=>by
    have hf:=hf (Nat.succ_pos _)
    have e:((i+1:Nat):Int)-1=(i:Nat):=by omega
    have h3:(A.set f (ge A (f+i))).length=n:=by rw [QT]; exact hA
    have h1:=Jf hc hr hlo hn (f:=f) (hi:=i) (root:=0) (by omega) (by omega) (swp A f (f+i)) (by rw [QA]; exact hA)
    have ih:=hs_L1 hr hlo hn (f:=f) (m:=m) i (sift (ltc cmp) f i i 0 (swp A f (f+i))) (by omega) (fun _=>by omega) (by rw [WY,QA]; exact hA)
    have e2:binOp PP .sub 3 (.p (.int .i64 ((i:Nat):Int))) (.p (.int .i64 1))=some (.p (.int .i64 ((i:Int)-1))):=by rw [Vo,QL (by omega) (by omega)]
    rw [f155_L1_eq Qb rfl,e]
    rw [hpB,←ih]
    simp only [V,N,swp] at h1
    simp (disch:=omega) only [V,N,Zm,geT,addN,idxL,ldW,stW,gG,e2,Qs,List.append_nil]
    rw [h1]
    simp only [gG,swp]
include hc in
theorem hs_L0 (hr:r<σ.length) (hlo:lo≤r) (hn:n≤100000) {f m:Nat} (hf:f+m≤n):∀ (i:Nat) (A:List E),i≤100000→A.length=n→
    f155_L0 Qb lo (V r n) (.fn cf []) (N f) (N 0) (N m) (N i) (W σ r A)=some (.tuple [],W σ r (hpB (ltc cmp) f m (hpA (ltc cmp) f m i A)))
  | 0,A,hi,hA=>by
    have h1:=Jf hc hr hlo hn (f:=f) (hi:=m) (root:=0) hf (by omega) A hA
    have h2:=hs_L1 hc hr hlo hn (f:=f) (m:=m) m (sift (ltc cmp) f m m 0 A) (by omega) (fun _=>hf) (by rw [WY]; exact hA)
    have e2:binOp PP .sub 3 (.p (.int .i64 ((m:Nat):Int))) (.p (.int .i64 1))=some (.p (.int .i64 ((m:Int)-1))):=by rw [Vo,QL (by omega) (by omega)]
    rw [f155_L0_eq Qb rfl]
    simp only [V,N] at h1
    simp (disch:=omega) only [V,N,Zm,geT,gG,Qs,List.append_nil]
    rw [h1]
    simp only [gG,sub1_0]
    rw [f155_L0_eq Qb rfl]
    simp (disch:=omega) only [V,N,Zm,geF,gG,e2]
    rw [hpA]
    exact h2
  | i+1,A,hi,hA=>by
    have h1:=Jf hc hr hlo hn (f:=f) (hi:=m) (root:=i+1) hf (by omega) A hA
    have ih:=hs_L0 hr hlo hn hf i (sift (ltc cmp) f m m (i+1) A) (by omega) (by rw [WY]; exact hA)
    rw [f155_L0_eq Qb rfl]
    simp only [V,N] at h1
    simp (disch:=omega) only [V,N,Zm,geT,gG,Qs,List.append_nil]
    rw [h1]
    simp (disch:=omega) only [gG,sub1,Nat.add_sub_cancel]
    rw [hpA]
    exact ih
include hc in
theorem hs_ok (hr:r<σ.length) (hlo:lo≤r) (hn:n≤100000) {a b:Nat} (hab:a<b) (hb:b≤n) (A:List E) (hA:A.length=n) :
    CC lo 155 [V r n,N a,N b,.fn cf []] (W σ r A)=some (.tuple [],W σ r (hpB (ltc cmp) a (b-a) (hpA (ltc cmp) a (b-a) ((b-a-1) / 2) A))):=by
  refine F155_call ?_
  have e2:binOp PP .quo 3 (.p (.int .i64 ((b-a-1:Nat):Int))) (.p (.int .i64 2))=some (.p (.int .i64 (((b-a-1) / 2:Nat):Int))):=by
    have e3:((b-a-1:Nat):Int).tdiv 2=(((b-a-1) / 2:Nat):Int):=by rw [Int.tdiv_eq_ediv_of_nonneg (by omega)]; omega
    have e4:binOp PP .quo 3 (.p (.int .i64 ((b-a-1:Nat):Int))) (.p (.int .i64 2))=some (.p (.int .i64 (IntKind.wrap .i64 (((b-a-1:Nat):Int).tdiv 2)))):=Eq.trans rfl rfl
    rw [e4,e3,QL (by omega) (by omega)]
  rw [F155_eq]
  simp (disch:=omega) only [N,subN,sub1,e2,gG]
  exact hs_L0 hc hr hlo hn (by omega) _ A (by omega) hA
end
end Go.D.StT
end
/- Partitions over elements of type 69. -/
section
set_option linter.unusedVariables false
set_option linter.unusedSimpArgs false
namespace Go.D.StT
open Go.D.Srt
def uA (cmp:E→E→Int) (pv x:E):Bool:=ltc cmp x pv
def vA (cmp:E→E→Int) (pv x:E):Bool:=!ltc cmp x pv
def uE (cmp:E→E→Int) (pv x:E):Bool:=!ltc cmp pv x
def vE (cmp:E→E→Int) (pv x:E):Bool:=ltc cmp pv x
theorem huvA (cmp:E→E→Int) (x y:E):vA cmp x y = !uA cmp x y:=rfl
theorem huvE (cmp:E→E→Int) (x y:E):vE cmp x y = !uE cmp x y:=by simp [uE,vE]
theorem nT {p:Prop} [Decidable p] (h:¬ p):(!decide p)=true:=by simp [h]
theorem nF {p:Prop} [Decidable p] (h:(!decide p)=true):¬ p:=by simpa using h
section
variable {cf : FuncId} {cmp : E → E → Int} (hc : ∀ (x y : E) (σ : Qa), Qx CC cf [val x, val y] σ = some (.p (.int .i64 (cmp x y))))
variable {r n lo : Nat} {σ : Qa}
include hc in
theorem upA0 (hr:r<σ.length) (hlo:lo≤r) (hn:n≤100000) {a j:Nat} {A:List E} (hA:A.length=n) (hj:j<n):∀ (k i:Nat),k=j+1-i→a+1≤i→i≤n→
    f161_L0 Qb lo (V r n) (N a) (.fn cf []) (N i) (N j) (W σ r A)=f161_L1 Qb lo (V r n) (N a) (.fn cf []) (N (upI (uA cmp (ge A a)) A k i j)) (N j) (W σ r A)
  | 0,i,hk,ha,hi=>by
    rw [f161_L0_eq Qb rfl,upI]
    simp (disch:=omega) only [V,N,Za,leF,gG]
  | k+1,i,hk,ha,hi=>by
    rw [f161_L0_eq Qb rfl,upI]
    by_cases h:cmp (ge A i) (ge A a)<0
    · rw [if_pos ⟨by omega,decide_eq_true h⟩,←upA0 hr hlo hn hA hj k (i+1) (by omega) (by omega) (by omega)]
      simp (disch:=omega) only [V,N,Za,leT,idxL,ldW,Qc,List.append_nil,hc,Qp,ltT,ltF,add1,gG]
    · rw [if_neg (fun hh=>h (of_decide_eq_true hh.2))]
      simp (disch:=omega) only [V,N,Za,leT,idxL,ldW,Qc,List.append_nil,hc,Qp,ltT,ltF,add1,gG]
include hc in
theorem upA1 (hr:r<σ.length) (hlo:lo≤r) (hn:n≤100000) {a j:Nat} {A:List E} (hA:A.length=n) (hj:j<n):∀ (k i:Nat),k=j+1-i→a+1≤i→i≤n→
    f161_L3 Qb lo (V r n) (N a) (.fn cf []) (N i) (N j) (W σ r A)=f161_L4 Qb lo (V r n) (N a) (.fn cf []) (N (upI (uA cmp (ge A a)) A k i j)) (N j) (W σ r A)
  | 0,i,hk,ha,hi=>by
    rw [f161_L3_eq Qb rfl,upI]
    simp (disch:=omega) only [V,N,Za,leF,gG]
  | k+1,i,hk,ha,hi=>by
    rw [f161_L3_eq Qb rfl,upI]
    by_cases h:cmp (ge A i) (ge A a)<0
    · rw [if_pos ⟨by omega,decide_eq_true h⟩,←upA1 hr hlo hn hA hj k (i+1) (by omega) (by omega) (by omega)]
      simp (disch:=omega) only [V,N,Za,leT,idxL,ldW,Qc,List.append_nil,hc,Qp,ltT,ltF,add1,gG]
    · rw [if_neg (fun hh=>h (of_decide_eq_true hh.2))]
      simp (disch:=omega) only [V,N,Za,leT,idxL,ldW,Qc,List.append_nil,hc,Qp,ltT,ltF,add1,gG]
include hc in
theorem upE (hr:r<σ.length) (hlo:lo≤r) (hn:n≤100000) {a j:Nat} {A:List E} (hA:A.length=n) (hj:j<n):∀ (k i:Nat),k=j+1-i→a+1≤i→i≤n→
    f160_L1 Qb lo (V r n) (N a) (.fn cf []) (N i) (N j) (W σ r A)=f160_L2 Qb lo (V r n) (N a) (.fn cf []) (N (upI (uE cmp (ge A a)) A k i j)) (N j) (W σ r A)
  | 0,i,hk,ha,hi=>by
    rw [f160_L1_eq Qb rfl,upI]
    simp (disch:=omega) only [V,N,Za,leF,gG]
  | k+1,i,hk,ha,hi=>by
    rw [f160_L1_eq Qb rfl,upI]
    by_cases h:¬ cmp (ge A a) (ge A i)<0
    · rw [if_pos ⟨by omega,nT h⟩,←upE hr hlo hn hA hj k (i+1) (by omega) (by omega) (by omega)]
      simp (disch:=omega) only [V,N,Za,leT,idxL,ldW,Qc,List.append_nil,hc,Qp,ltT,ltF,add1,gG]
    · rw [if_neg (fun hh=>h (nF hh.2))]
      simp (disch:=omega) only [V,N,Za,leT,idxL,ldW,Qc,List.append_nil,hc,Qp,ltT,ltF,add1,gG]
def enA0 (σ:Qa) (r a i J:Nat) (A:List E):DV×Qa:=(.tuple [N J,.p (.bool true)],W σ r (swp A J a))
include hc in
theorem dnA0 (hr:r<σ.length) (hlo:lo≤r) (hn:n≤100000) {a i:Nat} {A:List E} (hA:A.length=n) (ha:a+1≤i) (ha2:a<n):∀ (k j:Nat),k=j+1-i→i≤j+1→j<n→
    f161_L1 Qb lo (V r n) (N a) (.fn cf []) (N i) (N j) (W σ r A) =
      if dnJ (vA cmp (ge A a)) A k i j<i then some (enA0 σ r a i (dnJ (vA cmp (ge A a)) A k i j) A)
      else f161_L2 Qb lo (V r n) (N a) (.fn cf []) (N (i+1)) (N (dnJ (vA cmp (ge A a)) A k i j-1)) (W σ r (swp A i (dnJ (vA cmp (ge A a)) A k i j)))
  | 0,j,hk,hi,hj=>by
    have h3:(A.set j (ge A a)).length=n:=by rw [QT]; exact hA
    rw [f161_L1_eq Qb rfl,dnJ,if_pos (by omega)]
    simp (disch:=omega) only [V,N,Za,leF,Zi,gtT,idxL,ldW,stW,gG,enA0,swp]
  | k+1,j,hk,hi,hj=>by
    have h3:(A.set i (ge A j)).length=n:=by rw [QT]; exact hA
    rw [f161_L1_eq Qb rfl,dnJ]
    by_cases h:¬ cmp (ge A j) (ge A a)<0
    · rw [if_pos (show i≤j∧vA cmp (ge A a) (ge A j)=true from ⟨by omega,nT h⟩),←dnA0 hr hlo hn hA ha ha2 k (j-1) (by omega) (by omega) (by omega)]
      simp (disch:=omega) only [V,N,Za,leT,idxL,ldW,Qc,List.append_nil,hc,Qp,ltT,ltF,sub1,gG]
    · rw [if_neg (show ¬ (i≤j∧vA cmp (ge A a) (ge A j)=true) from fun hh=>h (nF hh.2)),if_neg (by omega)]
      simp (disch:=omega) only [V,N,Za,leT,idxL,ldW,Qc,List.append_nil,hc,Qp,ltT,ltF,Zi,gtF,stW,add1,sub1,swp,gG]
def enA1 (σ:Qa) (r a i J:Nat) (A:List E):DV×Qa:=(.tuple [N J,.p (.bool false)],W σ r (swp A J a))
include hc in
theorem dnA1 (hr:r<σ.length) (hlo:lo≤r) (hn:n≤100000) {a i:Nat} {A:List E} (hA:A.length=n) (ha:a+1≤i) (ha2:a<n):∀ (k j:Nat),k=j+1-i→i≤j+1→j<n→
    f161_L4 Qb lo (V r n) (N a) (.fn cf []) (N i) (N j) (W σ r A) =
      if dnJ (vA cmp (ge A a)) A k i j<i then some (enA1 σ r a i (dnJ (vA cmp (ge A a)) A k i j) A)
      else f161_L2 Qb lo (V r n) (N a) (.fn cf []) (N (i+1)) (N (dnJ (vA cmp (ge A a)) A k i j-1)) (W σ r (swp A i (dnJ (vA cmp (ge A a)) A k i j)))
  | 0,j,hk,hi,hj=>by
    have h3:(A.set j (ge A a)).length=n:=by rw [QT]; exact hA
    rw [f161_L4_eq Qb rfl,dnJ,if_pos (by omega)]
    simp (disch:=omega) only [V,N,Za,leF,Zi,gtT,idxL,ldW,stW,gG,enA1,swp]
  | k+1,j,hk,hi,hj=>by
    have h3:(A.set i (ge A j)).length=n:=by rw [QT]; exact hA
    rw [f161_L4_eq Qb rfl,dnJ]
    by_cases h:¬ cmp (ge A j) (ge A a)<0
    · rw [if_pos (show i≤j∧vA cmp (ge A a) (ge A j)=true from ⟨by omega,nT h⟩),←dnA1 hr hlo hn hA ha ha2 k (j-1) (by omega) (by omega) (by omega)]
      simp (disch:=omega) only [V,N,Za,leT,idxL,ldW,Qc,List.append_nil,hc,Qp,ltT,ltF,sub1,gG]
    · rw [if_neg (show ¬ (i≤j∧vA cmp (ge A a) (ge A j)=true) from fun hh=>h (nF hh.2)),if_neg (by omega)]
      simp (disch:=omega) only [V,N,Za,leT,idxL,ldW,Qc,List.append_nil,hc,Qp,ltT,ltF,Zi,gtF,stW,add1,sub1,swp,gG]
def enE (σ:Qa) (r a i J:Nat) (A:List E):DV×Qa:=(N i,W σ r A)
include hc in
theorem dnE (hr:r<σ.length) (hlo:lo≤r) (hn:n≤100000) {a i:Nat} {A:List E} (hA:A.length=n) (ha:a+1≤i) (ha2:a<n):∀ (k j:Nat),k=j+1-i→i≤j+1→j<n→
    f160_L2 Qb lo (V r n) (N a) (.fn cf []) (N i) (N j) (W σ r A) =
      if dnJ (vE cmp (ge A a)) A k i j<i then some (enE σ r a i (dnJ (vE cmp (ge A a)) A k i j) A)
      else f160_L0 Qb lo (V r n) (N a) (.fn cf []) (N (i+1)) (N (dnJ (vE cmp (ge A a)) A k i j-1)) (W σ r (swp A i (dnJ (vE cmp (ge A a)) A k i j)))
  | 0,j,hk,hi,hj=>by
    have h3:(A.set j (ge A a)).length=n:=by rw [QT]; exact hA
    rw [f160_L2_eq Qb rfl,dnJ,if_pos (by omega)]
    simp (disch:=omega) only [V,N,Za,leF,Zi,gtT,idxL,ldW,stW,gG,enE,swp]
  | k+1,j,hk,hi,hj=>by
    have h3:(A.set i (ge A j)).length=n:=by rw [QT]; exact hA
    rw [f160_L2_eq Qb rfl,dnJ]
    by_cases h:cmp (ge A a) (ge A j)<0
    · rw [if_pos (show i≤j∧vE cmp (ge A a) (ge A j)=true from ⟨by omega,decide_eq_true h⟩),←dnE hr hlo hn hA ha ha2 k (j-1) (by omega) (by omega) (by omega)]
      simp (disch:=omega) only [V,N,Za,leT,idxL,ldW,Qc,List.append_nil,hc,Qp,ltT,ltF,sub1,gG]
    · rw [if_neg (show ¬ (i≤j∧vE cmp (ge A a) (ge A j)=true) from fun hh=>h (of_decide_eq_true hh.2)),if_neg (by omega)]
      simp (disch:=omega) only [V,N,Za,leT,idxL,ldW,Qc,List.append_nil,hc,Qp,ltT,ltF,Zi,gtF,stW,add1,sub1,swp,gG]
include hc in
theorem lpA (hr:r<σ.length) (hlo:lo≤r) (hn:n≤100000) {a:Nat} (ha2:a<n):∀ (k i j:Nat) (A:List E),j+1-i<k→a+1≤i→i≤j+1→j<n→A.length=n→
    f161_L2 Qb lo (V r n) (N a) (.fn cf []) (N i) (N j) (W σ r A)=some (enA1 σ r a (prt (uA cmp) (vA cmp) a k i j A).1 (prt (uA cmp) (vA cmp) a k i j A).2.1 (prt (uA cmp) (vA cmp) a k i j A).2.2)
  | 0,i,j,A,hk,ha,hi,hj,hA=>by omega
  | k+1,i,j,A,hk,ha,hi,hj,hA=>by
    obtain ⟨a1,a2,a3,a4⟩:=Uu (q:=uA cmp (ge A a)) (A:=A) (j+1-i) i j (Nat.le_refl _) hi
    have h1:=upA1 hc hr hlo hn hA hj _ i rfl ha (by omega)
    obtain ⟨b1,b2,b3,b4⟩:=Uw (q:=vA cmp (ge A a)) (A:=A) (j+1-upI (uA cmp (ge A a)) A (j+1-i) i j) (upI (uA cmp (ge A a)) A (j+1-i) i j) j (Nat.le_refl _) a2 (by omega)
    rw [f161_L2_eq Qb rfl,h1,prt]
    generalize upI (uA cmp (ge A a)) A (j+1-i) i j=i' at *
    have h2:=dnA1 hc hr hlo hn hA (show a+1≤i' by omega) ha2 _ j rfl a2 hj
    rw [h2]
    generalize dnJ (vA cmp (ge A a)) A (j+1-i') i' j=j' at *
    split
    · rename_i hlt
      rfl
    · rename_i hlt
      have c1:=a4 (by omega)
      have c2:=b4 (by omega)
      have hne:i'≠j':=by
        rintro rfl
        rw [huvA,c1] at c2
        exact absurd c2 (by decide)
      exact lpA hr hlo hn ha2 k (i'+1) (j' - 1) (swp A i' j') (by omega) (by omega) (by omega) (by omega) (by rw [QA]; exact hA)
include hc in
theorem lpE (hr:r<σ.length) (hlo:lo≤r) (hn:n≤100000) {a:Nat} (ha2:a<n):∀ (k i j:Nat) (A:List E),j+1-i<k→a+1≤i→i≤j+1→j<n→A.length=n→
    f160_L0 Qb lo (V r n) (N a) (.fn cf []) (N i) (N j) (W σ r A)=some (enE σ r a (prt (uE cmp) (vE cmp) a k i j A).1 (prt (uE cmp) (vE cmp) a k i j A).2.1 (prt (uE cmp) (vE cmp) a k i j A).2.2)
  | 0,i,j,A,hk,ha,hi,hj,hA=>by omega
  | k+1,i,j,A,hk,ha,hi,hj,hA=>by
    obtain ⟨a1,a2,a3,a4⟩:=Uu (q:=uE cmp (ge A a)) (A:=A) (j+1-i) i j (Nat.le_refl _) hi
    have h1:=upE hc hr hlo hn hA hj _ i rfl ha (by omega)
    obtain ⟨b1,b2,b3,b4⟩:=Uw (q:=vE cmp (ge A a)) (A:=A) (j+1-upI (uE cmp (ge A a)) A (j+1-i) i j) (upI (uE cmp (ge A a)) A (j+1-i) i j) j (Nat.le_refl _) a2 (by omega)
    rw [f160_L0_eq Qb rfl,h1,prt]
    generalize upI (uE cmp (ge A a)) A (j+1-i) i j=i' at *
    have h2:=dnE hc hr hlo hn hA (show a+1≤i' by omega) ha2 _ j rfl a2 hj
    rw [h2]
    generalize dnJ (vE cmp (ge A a)) A (j+1-i') i' j=j' at *
    split
    · rename_i hlt
      rfl
    · rename_i hlt
      have c1:=a4 (by omega)
      have c2:=b4 (by omega)
      have hne:i'≠j':=by
        rintro rfl
        rw [huvE,c1] at c2
        exact absurd c2 (by decide)
      exact lpE hr hlo hn ha2 k (i'+1) (j' - 1) (swp A i' j') (by omega) (by omega) (by omega) (by omega) (by rw [QA]; exact hA)
include hc in
theorem pe_ok (hr:r<σ.length) (hlo:lo≤r) (hn:n≤100000) {a b p:Nat} (hab:a<b) (hb:b≤n) (hp:p<n) (A:List E) (hA:A.length=n) :
    CC lo 160 [V r n,N a,N b,N p,.fn cf []] (W σ r A)=some (enE σ r a (prt (uE cmp) (vE cmp) a (b-a+1) (a+1) (b-1) (swp A a p)).1 0 (prt (uE cmp) (vE cmp) a (b-a+1) (a+1) (b-1) (swp A a p)).2.2):=by
  refine F160_call ?_
  have h3:(A.set a (ge A p)).length=n:=by rw [QT]; exact hA
  rw [F160_eq]
  simp (disch:=omega) only [V,N,idxL,ldW,stW,add1,sub1,gG]
  exact lpE hc hr hlo hn (by omega) (b-a+1) (a+1) (b-1) (swp A a p) (by omega) (by omega) (by omega) (by omega) (by rw [QA]; exact hA)
include hc in
theorem pa_ok (hr:r<σ.length) (hlo:lo≤r) (hn:n≤100000) {a b p:Nat} (hab:a<b) (hb:b≤n) (hp:p<n) (A:List E) (hA:A.length=n) :
    ∃ f:Bool,CC lo 161 [V r n,N a,N b,N p,.fn cf []] (W σ r A)=some (.tuple [N (prt (uA cmp) (vA cmp) a (b-a+1) (a+1) (b-1) (swp A a p)).2.1,.p (.bool f)],W σ r (swp (prt (uA cmp) (vA cmp) a (b-a+1) (a+1) (b-1) (swp A a p)).2.2 (prt (uA cmp) (vA cmp) a (b-a+1) (a+1) (b-1) (swp A a p)).2.1 a)):=by
  have h3:(A.set a (ge A p)).length=n:=by rw [QT]; exact hA
  have hB:(swp A a p).length=n:=by rw [QA]; exact hA
  have key:∃ f:Bool,f161_L0 Qb lo (V r n) (N a) (.fn cf []) (N (a+1)) (N (b-1)) (W σ r (swp A a p))=some (.tuple [N (prt (uA cmp) (vA cmp) a (b-a+1) (a+1) (b-1) (swp A a p)).2.1,.p (.bool f)],W σ r (swp (prt (uA cmp) (vA cmp) a (b-a+1) (a+1) (b-1) (swp A a p)).2.2 (prt (uA cmp) (vA cmp) a (b-a+1) (a+1) (b-1) (swp A a p)).2.1 a)):=by
    generalize swp A a p=B at *
    have hi:a+1≤b-1+1:=by omega
    obtain ⟨a1,a2,a3,a4⟩:=Uu (q:=uA cmp (ge B a)) (A:=B) (b-1+1-(a+1)) (a+1) (b-1) (Nat.le_refl _) hi
    have h1:=upA0 hc hr hlo hn hB (show b-1<n by omega) _ (a+1) rfl (Nat.le_refl _) (by omega)
    obtain ⟨b1,b2,b3,b4⟩:=Uw (q:=vA cmp (ge B a)) (A:=B) (b-1+1-upI (uA cmp (ge B a)) B (b-1+1-(a+1)) (a+1) (b-1)) (upI (uA cmp (ge B a)) B (b-1+1-(a+1)) (a+1) (b-1)) (b-1) (Nat.le_refl _) a2 (by omega)
    rw [h1,prt]
    generalize upI (uA cmp (ge B a)) B (b-1+1-(a+1)) (a+1) (b-1)=i' at *
    have h2:=dnA0 hc hr hlo hn hB (show a+1≤i' by omega) (by omega) _ (b-1) rfl a2 (by omega)
    rw [h2]
    generalize dnJ (vA cmp (ge B a)) B (b-1+1-i') i' (b-1)=j' at *
    split
    · rename_i hlt
      exact ⟨true,rfl⟩
    · rename_i hlt
      have c1:=a4 (by omega)
      have c2:=b4 (by omega)
      have hne:i'≠j':=by
        rintro rfl
        rw [huvA,c1] at c2
        exact absurd c2 (by decide)
      exact ⟨false,lpA hc hr hlo hn (by omega) (b-a) (i'+1) (j' - 1) (swp B i' j') (by omega) (by omega) (by omega) (by omega) (by rw [QA]; exact hB)⟩
  obtain ⟨f,hf⟩:=key
  refine ⟨f,F161_call ?_⟩
  rw [F161_eq]
  simp (disch:=omega) only [V,N,idxL,ldW,stW,add1,sub1,gG]
  exact hf
end
end Go.D.StT
end
/- Partial insertion over elements of type 69. -/
section
set_option linter.unusedVariables false
set_option linter.unusedSimpArgs false
namespace Go.D.StT
open Go.D.Srt
theorem insUp_len (lt:E→E→Bool):∀ (k j:Nat) (A:List E),(WR lt k j A).length=A.length
  | 0,j,A=>rfl
  | k+1,j,A=>by
    unfold WR
    split
    · rw [insUp_len lt k,QA]
    · rfl
section
variable {cf : FuncId} {cmp : E → E → Int} (hc : ∀ (x y : E) (σ : Qa), Qx CC cf [val x, val y] σ = some (.p (.int .i64 (cmp x y))))
variable {r n lo : Nat} {σ : Qa}
include hc in
theorem pi_L3 (hr:r<σ.length) (hlo:lo≤r) (hn:n≤100000) {a b i c:Nat} (hb:b≤n) (hcc:c≤1000):∀ (k j:Nat) (A:List E),k=b-j→1≤j→A.length=n→
    f159_L3 Qb lo (V r n) (N a) (N b) (.fn cf []) (N i) (N c) (N j) (W σ r A)=f159_L0 Qb lo (V r n) (N a) (N b) (.fn cf []) (N i) (N (c+1)) (W σ r (WR (ltc cmp) k j A))
  | 0,j,A,hk,hj,hA=>by
    rw [f159_L3_eq Qb rfl,WR]
    simp (disch:=omega) only [V,N,Qp,ltF,gG,f159_J1_eq,add1]
  | k+1,j,A,hk,hj,hA=>by
    have h3:(A.set j (ge A (j-1))).length=n:=by rw [QT]; exact hA
    rw [f159_L3_eq Qb rfl,WR]
    by_cases h:cmp (ge A j) (ge A (j-1))<0
    · rw [if_pos (show ltc cmp _ _=true from decide_eq_true h),←pi_L3 hr hlo hn hb hcc k (j+1) (swp A j (j-1)) (by omega) (by omega) (by rw [QA]; exact hA)]
      simp (disch:=omega) only [V,N,Qp,ltT,sub1,idxL,ldW,stW,Qc,List.append_nil,hc,gG,add1,swp]
    · rw [if_neg (show ¬ ltc cmp _ _=true from fun e=>h (of_decide_eq_true e))]
      simp (disch:=omega) only [V,N,Qp,ltT,ltF,sub1,idxL,ldW,stW,Qc,List.append_nil,hc,gG,f159_J1_eq,add1]
include hc in
theorem Ji (hr:r<σ.length) (hlo:lo≤r) (hn:n≤100000) {a b i c:Nat} (hb:b≤n) (hi:i≤b) (hcc:c≤1000) (A:List E) (hA:A.length=n) (x11 x39 x40 x41 x42 x43 x44 x45 x46 x47 x48 x49 x50 x51 x52 x53 x54 x55 x56 x57 x58 x59 x60 x61 x62 x63 x64 x65 x66 x67 x68 x69 x70 x71 x72 x73 x74 x75 x76 x77 x78 x79 x80 x81 x82 x83 x84 x85 x86 x87 x88 x89 x90 x91 x92 x93 x94 x95 x96 x97 x98 x99 x100:DV) :
    f159_J0 Qb lo (V r n) (N a) (N b) (.fn cf []) (N i) (N c) x11 x39 x40 x41 x42 x43 x44 x45 x46 x47 x48 x49 x50 x51 x52 x53 x54 x55 x56 x57 x58 x59 x60 x61 x62 x63 x64 x65 x66 x67 x68 x69 x70 x71 x72 x73 x74 x75 x76 x77 x78 x79 x80 x81 x82 x83 x84 x85 x86 x87 x88 x89 x90 x91 x92 x93 x94 x95 x96 x97 x98 x99 x100 (W σ r A)=f159_L0 Qb lo (V r n) (N a) (N b) (.fn cf []) (N i) (N (c+1)) (W σ r (if 2≤b-i then WR (ltc cmp) (b-(i+1)) (i+1) A else A)):=by
  have h3:=pi_L3 hc hr hlo hn (a:=a) (i:=i) hb hcc (b-(i+1)) (i+1) A rfl (by omega) hA
  rw [f159_J0_eq Qb]
  by_cases h:2≤b-i
  · rw [if_pos h,←h3]
    simp (disch:=omega) only [V,N,subN,Zm,geT,gG,add1]
  · rw [if_neg h]
    simp (disch:=omega) only [V,N,subN,Zm,geF,gG,add1,f159_J1_eq]
include hc in
theorem pi_L2 (hr:r<σ.length) (hlo:lo≤r) (hn:n≤100000) {a b i c:Nat} (hb:b≤n) (hi:i≤b) (hcc:c≤1000):∀ (j:Nat) (A:List E),j<n→A.length=n→
    f159_L2 Qb lo (V r n) (N a) (N b) (.fn cf []) (N i) (N c) (N j) (W σ r A) =
      f159_L0 Qb lo (V r n) (N a) (N b) (.fn cf []) (N i) (N (c+1)) (W σ r (if 2≤b-i then WR (ltc cmp) (b-(i+1)) (i+1) (Zb (ltc cmp) 0 j A) else Zb (ltc cmp) 0 j A))
  | 0,A,hj,hA=>by
    rw [f159_L2_eq Qb rfl,Zb]
    simp (disch:=omega) only [V,N,Zm,geF,gG]
    exact Ji hc hr hlo hn hb hi hcc A hA _ _ _ _ _ _ _ _ _ _ _ _ _ _ _ _ _ _ _ _ _ _ _ _ _ _ _ _ _ _ _ _ _ _ _ _ _ _ _ _ _ _ _ _ _ _ _ _ _ _ _ _ _ _ _ _ _ _ _ _ _ _ _
  | j+1,A,hj,hA=>by
    have h3:(A.set (j+1) (ge A j)).length=n:=by rw [QT]; exact hA
    rw [f159_L2_eq Qb rfl]
    by_cases h:cmp (ge A (j+1)) (ge A j)<0
    · have e:Zb (ltc cmp) 0 (j+1) A=Zb (ltc cmp) 0 j (swp A (j+1) j):=by
        rw [Zb,if_pos ⟨by omega,decide_eq_true h⟩]
      rw [e,←pi_L2 hr hlo hn hb hi hcc j (swp A (j+1) j) (by omega) (by rw [QA]; exact hA)]
      simp (disch:=omega) only [V,N,Zm,geT,Qp,ltT,sub1,Nat.add_sub_cancel,idxL,ldW,stW,Qc,List.append_nil,hc,gG,swp]
    · have e:Zb (ltc cmp) 0 (j+1) A=A:=by
        rw [Zb,if_neg (fun hh=>h (of_decide_eq_true hh.2))]
      rw [e]
      simp (disch:=omega) only [V,N,Zm,geT,Qp,ltF,sub1,Nat.add_sub_cancel,idxL,ldW,stW,Qc,List.append_nil,hc,gG]
      exact Ji hc hr hlo hn hb hi hcc A hA _ _ _ _ _ _ _ _ _ _ _ _ _ _ _ _ _ _ _ _ _ _ _ _ _ _ _ _ _ _ _ _ _ _ _ _ _ _ _ _ _ _ _ _ _ _ _ _ _ _ _ _ _ _ _ _ _ _ _ _ _ _ _
def pA3 (cmp:E→E→Int) (a b i:Nat) (A:List E):List E:=
  let A1:=swp A i (i-1)
  let A2:=if 2≤i-a then Zb (ltc cmp) 0 (i-1) A1 else A1
  if 2≤b-i then WR (ltc cmp) (b-(i+1)) (i+1) A2 else A2
include hc in
theorem pi_L1 (hr:r<σ.length) (hlo:lo≤r) (hn:n≤100000) {a b c:Nat} (hb:b≤n) (hcc:c≤1000) {A:List E} (hA:A.length=n):∀ (k i:Nat),k=b-i→a+1≤i→i≤b→
    f159_L1 Qb lo (V r n) (N a) (N b) (.fn cf []) (N i) (N c) (W σ r A) =
      if ZZ (ltc cmp) A b k i=b then some (.p (.bool true),W σ r A) else if b-a<50 then some (.p (.bool false),W σ r A)
      else f159_L0 Qb lo (V r n) (N a) (N b) (.fn cf []) (N (ZZ (ltc cmp) A b k i)) (N (c+1)) (W σ r (pA3 cmp a b (ZZ (ltc cmp) A b k i) A))
  | 0,i,hk,ha,hi=>by
    rw [f159_L1_eq Qb rfl,ZZ,if_pos (by omega)]
    simp (disch:=omega) only [V,N,Qp,ltF,Zc,eqT,gG]
  | k+1,i,hk,ha,hi=>by
    rw [f159_L1_eq Qb rfl,ZZ]
    by_cases h:cmp (ge A i) (ge A (i-1))<0
    · rw [if_neg (show ¬ (i<b∧ltc cmp (ge A i) (ge A (i-1))=false) from fun hh=>of_decide_eq_false hh.2 h),if_neg (by omega)]
      by_cases h5:b-a<50
      · rw [if_pos h5]
        simp (disch:=omega) only [V,N,Qp,ltT,sub1,subN,idxL,ldW,Qc,List.append_nil,hc,Zc,eqF,gG]
      · rw [if_neg h5]
        have h3:(A.set i (ge A (i-1))).length=n:=by rw [QT]; exact hA
        by_cases h6:2≤i-a
        · have e:=pi_L2 hc hr hlo hn (a:=a) hb (show i≤b from hi) hcc (i-1) (swp A i (i-1)) (by omega) (by rw [QA]; exact hA)
          have e2:pA3 cmp a b i A=if 2≤b-i then WR (ltc cmp) (b-(i+1)) (i+1) (Zb (ltc cmp) 0 (i-1) (swp A i (i-1))) else Zb (ltc cmp) 0 (i-1) (swp A i (i-1)):=by
            simp only [pA3,if_pos h6]
          rw [e2,←e]
          simp (disch:=omega) only [V,N,Qp,ltT,ltF,sub1,subN,idxL,ldW,stW,Qc,List.append_nil,hc,Zc,eqF,Zm,geT,gG,swp]
        · have e2:pA3 cmp a b i A=if 2≤b-i then WR (ltc cmp) (b-(i+1)) (i+1) (swp A i (i-1)) else swp A i (i-1):=by
            simp only [pA3,if_neg h6]
          rw [e2]
          simp (disch:=omega) only [V,N,Qp,ltT,ltF,sub1,subN,idxL,ldW,stW,Qc,List.append_nil,hc,Zc,eqF,Zm,geF,gG]
          exact Ji hc hr hlo hn (a:=a) hb (show i≤b from hi) hcc (swp A i (i-1)) (by rw [QA]; exact hA) _ _ _ _ _ _ _ _ _ _ _ _ _ _ _ _ _ _ _ _ _ _ _ _ _ _ _ _ _ _ _ _ _ _ _ _ _ _ _ _ _ _ _ _ _ _ _ _ _ _ _ _ _ _ _ _ _ _ _ _ _ _ _
    · rw [if_pos (show i<b∧ltc cmp (ge A i) (ge A (i-1))=false from ⟨by omega,decide_eq_false h⟩),←pi_L1 hr hlo hn hb hcc hA k (i+1) (by omega) (by omega) (by omega)]
      simp (disch:=omega) only [V,N,Qp,ltT,ltF,sub1,idxL,ldW,Qc,List.append_nil,hc,add1,gG]
theorem pA3_len (a b i:Nat) (A:List E):(pA3 cmp a b i A).length=A.length:=by
  unfold pA3
  simp only
  split <;> split <;> simp only [insUp_len,Vg,QA]
include hc in
theorem pi_L0 (hr:r<σ.length) (hlo:lo≤r) (hn:n≤100000) {a b:Nat} (hb:b≤n) (hab:a<b):∀ (s i:Nat) (A:List E),s≤5→a+1≤i→i≤b→A.length=n→
    f159_L0 Qb lo (V r n) (N a) (N b) (.fn cf []) (N i) (N (5-s)) (W σ r A)=some (.p (.bool (pins (ltc cmp) a b s i A).1),W σ r (pins (ltc cmp) a b s i A).2)
  | 0,i,A,hs,ha,hi,hA=>by
    rw [f159_L0_eq Qb rfl,pins]
    simp (disch:=omega) only [V,N,Qp,ltF,gG]
  | s+1,i,A,hs,ha,hi,hA=>by
    have h1:=pi_L1 hc hr hlo hn (c:=5-(s+1)) hb (by omega) hA (b-i) i rfl ha hi
    have hle:i≤ZZ (ltc cmp) A b (b-i) i∧ZZ (ltc cmp) A b (b-i) i≤b:=scan_le (b-i) i rfl hi
    rw [f159_L0_eq Qb rfl,pins]
    have e:f159_L1 Qb lo (V r n) (N a) (N b) (.fn cf []) (N i) (N (5-(s+1))) (W σ r A)=_:=h1
    have e5:decide (((5-(s+1):Nat):Int)<5)=true:=decide_eq_true (by omega)
    simp only [Qp,e5,gG,e]
    generalize ZZ (ltc cmp) A b (b-i) i=i' at *
    split
    · rfl
    · split
      · rfl
      · have ih:=pi_L0 hr hlo hn hb hab s i' (pA3 cmp a b i' A) (by omega) (by omega) (by omega) (by rw [pA3_len]; exact hA)
        rw [show 5-(s+1)+1=5-s by omega]
        exact ih
where
  scan_le {A:List E} {b:Nat}:∀ (k i:Nat),k=b-i→i≤b→i≤ZZ (ltc cmp) A b k i∧ZZ (ltc cmp) A b k i≤b
  | 0,i,hk,hi=>⟨Nat.le_refl _,hi⟩
  | k+1,i,hk,hi=>by
    unfold ZZ
    split
    · have:=scan_le (A:=A) (b:=b) k (i+1) (by omega) (by omega)
      exact ⟨by omega,this.2⟩
    · exact ⟨Nat.le_refl _,hi⟩
include hc in
theorem pi_ok (hr:r<σ.length) (hlo:lo≤r) (hn:n≤100000) {a b:Nat} (hb:b≤n) (hab:a<b) (A:List E) (hA:A.length=n) :
    CC lo 159 [V r n,N a,N b,.fn cf []] (W σ r A)=some (.p (.bool (pins (ltc cmp) a b 5 (a+1) A).1),W σ r (pins (ltc cmp) a b 5 (a+1) A).2):=by
  refine F159_call ?_
  rw [F159_eq]
  simp (disch:=omega) only [N,add1,gG]
  exact pi_L0 hc hr hlo hn hb hab 5 (a+1) A (by omega) (by omega) (by omega) hA
end
end Go.D.StT
end
/- Reversing, and the choice of a pivot, over elements of type 69. -/
section
set_option linter.unusedVariables false
set_option linter.unusedSimpArgs false
namespace Go.D.StT
open Go.D.Srt
section
variable {cf : FuncId} {cmp : E → E → Int} (hc : ∀ (x y : E) (σ : Qa), Qx CC cf [val x, val y] σ = some (.p (.int .i64 (cmp x y))))
variable {r n lo : Nat} {σ : Qa}
theorem rv_L0 (hr:r<σ.length) (hlo:lo≤r) (hn:n≤100000) {a b:Nat} (hb:b≤n):∀ (k i j:Nat) (A:List E),j-i≤k→a≤i→j<b→A.length=n→
    ∃ B,RP a b A B∧f158_L0 Qb lo (V r n) (N i) (N j) (W σ r A)=some (.tuple [],W σ r B)
  | 0,i,j,A,hk,ha,hj,hA=>by
    refine ⟨A,RP.refl _ _ _,?_⟩
    rw [f158_L0_eq Qb rfl]
    simp (disch:=omega) only [V,N,Qp,ltF,gG]
  | k+1,i,j,A,hk,ha,hj,hA=>by
    by_cases h:i<j
    · obtain ⟨B,h1,h2⟩:=rv_L0 hr hlo hn (a:=a) hb k (i+1) (j-1) (swp A i j) (by omega) (by omega) (by omega) (by rw [QA]; exact hA)
      refine ⟨B,(RP.swap (a:=a) (b:=b) (i:=i) (j:=j) ⟨ha,by omega⟩ ⟨by omega,hj⟩ (by omega)).trans h1,?_⟩
      have h3:(A.set i (ge A j)).length=n:=by rw [QT]; exact hA
      rw [f158_L0_eq Qb rfl,←h2]
      simp (disch:=omega) only [V,N,Qp,ltT,idxL,ldW,stW,add1,sub1,gG,swp]
    · refine ⟨A,RP.refl _ _ _,?_⟩
      rw [f158_L0_eq Qb rfl]
      simp (disch:=omega) only [V,N,Qp,ltF,gG]
theorem rv_ok (hr:r<σ.length) (hlo:lo≤r) (hn:n≤100000) {a b:Nat} (hab:a<b) (hb:b≤n) (A:List E) (hA:A.length=n) (y:DV) :
    ∃ B,RP a b A B∧CC lo 158 [V r n,N a,N b,y] (W σ r A)=some (.tuple [],W σ r B):=by
  obtain ⟨B,h1,h2⟩:=rv_L0 hr hlo hn (a:=a) hb (b-1-a) a (b-1) A (Nat.le_refl _) (Nat.le_refl _) (by omega) hA
  refine ⟨B,h1,F158_call ?_⟩
  rw [F158_eq]
  simp (disch:=omega) only [N,sub1,gG]
  exact h2
def Q (σ:Qa) (r:Nat) (A:List E) (k:Int):Qa:=W (σ++[Row.mix [.p (.int .i64 k)]]) r A
theorem Q_load (hr:r<σ.length) (A:List E) (k:Int):load PP 3 (.ptr σ.length 0) (Q σ r A k)=some (.p (.int .i64 k)):=by
  rw [QJ,Qd (off:=0) (cs:=[.p (.int .i64 k)]) ?_ rfl]
  exact Qv QE (by omega)
theorem s3i:size? PP 3=some 1:=Eq.trans (by kernel_rfl) rfl
theorem Q_store (hr:r<σ.length) (hlo:lo≤r) (A:List E) (k k':Int):store PP lo 3 (.ptr σ.length 0) (.p (.int .i64 k')) (Q σ r A k)=some (Q σ r A k'):=by
  have h1:(Q σ r A k)[σ.length]?=some (.mix [.p (.int .i64 k)]):=Qv QE (by omega)
  have h2:lo≤σ.length:=by omega
  have h3:(Q σ r A k).set σ.length (.mix [.p (.int .i64 k')])=Q σ r A k':=by
    unfold Q
    rw [W,List.set_comm _ _ (by omega),List.set_append_right _ _ (Nat.le_refl _),Nat.sub_self]
    rfl
  simp only [store,s3i,DV.cells,List.length_singleton,if_true,Zs,h2,h1]
  rw [←h3]
  rfl
include hc in
theorem Jj (hr:r<σ.length) (hlo:lo≤r) {i j:Nat} (hi:i<n) (hj:j<n) {A:List E} (hA:A.length=n) (k:Int) :
    ∃ i' j' k',CC lo 167 [V r n,N i,N j,.ptr σ.length 0,.fn cf []] (Q σ r A k)=some (.tuple [N i',N j'],Q σ r A k')∧((i'=i∧j'=j)∨(i'=j∧j'=i)):=by
  have hr':r<(σ++[Row.mix [.p (.int .i64 k)]]).length:=by simp; omega
  by_cases h:cmp (ge A j) (ge A i)<0
  · refine ⟨j,i,IntKind.wrap .i64 (k+1),F167_call ?_,.inr ⟨rfl,rfl⟩⟩
    rw [F167_eq]
    have e1:=Q_load hr A k
    have e2:=Q_store hr hlo A k (IntKind.wrap .i64 (k+1))
    have e3:∀ s off,QX (.ptr s off)=some (.ptr s off):=fun _ _=>rfl
    have e4:∀ i,i<A.length→load PP 69 (.ptr r (i*3)) (Q σ r A k)=some (val (ge A i)):=fun i hi=>ldW hr' hi
    simp (disch:=omega) only [V,N,idxL,e4,Qc,List.append_nil,hc,Qp,ltT,gG,e3,e1,ZX,e2]
  · refine ⟨i,j,k,F167_call ?_,.inl ⟨rfl,rfl⟩⟩
    rw [F167_eq]
    have e4:∀ i,i<A.length→load PP 69 (.ptr r (i*3)) (Q σ r A k)=some (val (ge A i)):=fun i hi=>ldW hr' hi
    simp (disch:=omega) only [V,N,idxL,e4,Qc,List.append_nil,hc,Qp,ltF,gG]
theorem Jo (x y:DV):Ql (.tuple [x,y]) 0=some x:=rfl
theorem Jn (x y:DV):Ql (.tuple [x,y]) 1=some y:=rfl
include hc in
theorem me_ok (hr:r<σ.length) (hlo:lo≤r) {i j l:Nat} (hi:i<n) (hj:j<n) (hl:l<n) {A:List E} (hA:A.length=n) (k:Int) :
    ∃ m k',CC lo 166 [V r n,N i,N j,N l,.ptr σ.length 0,.fn cf []] (Q σ r A k)=some (N m,Q σ r A k')∧(m=i∨m=j∨m=l):=by
  obtain ⟨i1,j1,k1,e1,h1⟩:=Jj hc hr hlo hi hj hA k
  obtain ⟨i2,j2,k2,e2,h2⟩:=Jj hc hr hlo (i:=j1) (j:=l) (by omega) hl hA k1
  obtain ⟨i3,j3,k3,e3,h3⟩:=Jj hc hr hlo (i:=i1) (j:=i2) (by omega) (by omega) hA k2
  refine ⟨j3,k3,F166_call ?_,by omega⟩
  rw [F166_eq]
  simp only [Qs,List.append_nil,e1,e2,e3,gG,Jo,Jn]
include hc in
theorem Jk (hr:r<σ.length) (hlo:lo≤r) (hn:n≤100000) {i:Nat} (h0:1≤i) (hi:i+1<n) {A:List E} (hA:A.length=n) (k:Int) :
    ∃ m k',CC lo 165 [V r n,N i,.ptr σ.length 0,.fn cf []] (Q σ r A k)=some (N m,Q σ r A k')∧i-1≤m∧m≤i+1:=by
  obtain ⟨m,k1,e1,h1⟩:=me_ok hc hr hlo (i:=i-1) (j:=i) (l:=i+1) (by omega) (by omega) hi hA k
  refine ⟨m,k1,F165_call ?_,by omega⟩
  rw [F165_eq]
  simp only [N] at e1
  simp (disch:=omega) only [N,sub1,add1,Qs,List.append_nil,e1,gG]
theorem cp_J1 (hr:r<σ.length) (A:List E) (k:Int) (p:Nat) (x0 x1 x2 x3 x8 x9 x10 x12 x14 x15 x16 x17 x18 x19 x20 x21 x22 x23 x24 x25 x26 x27 x28 x29 x30 x31 x32 x33 x34 x35 x36 x37 x38 x39 x40 x41 x42 x43 x44 x45 x46 x47 x48 x49 x50 x51 x52 x53 x54:DV) :
    ∃ h:Int,f157_J1 Qb lo x0 x1 x2 x3 x8 x9 x10 (.ptr σ.length 0) x12 (N p) x14 x15 x16 x17 x18 x19 x20 x21 x22 x23 x24 x25 x26 x27 x28 x29 x30 x31 x32 x33 x34 x35 x36 x37 x38 x39 x40 x41 x42 x43 x44 x45 x46 x47 x48 x49 x50 x51 x52 x53 x54 (Q σ r A k)=some (.tuple [N p,.p (.int .i64 h)],Q σ r A k):=by
  rw [f157_J1_eq Qb]
  simp only [Q_load hr,Zc,gG]
  by_cases h1:k=0
  · exact ⟨1,by simp only [eqT h1,gG]⟩
  · by_cases h2:k=12
    · exact ⟨2,by simp only [eqF h1,eqT h2,gG]⟩
    · exact ⟨0,by simp only [eqF h1,eqF h2,gG]⟩
include hc in
theorem cp_J0 (hr:r<σ.length) (hlo:lo≤r) {i j l:Nat} (hi:i<n) (hj:j<n) (hl:l<n) {A:List E} (hA:A.length=n) (k:Int) (x1 x2 x8 x9 x10 x15 x16 x17 x18 x19 x20 x21 x22 x23 x24 x25 x26 x27 x28 x29 x30 x31 x32 x33 x34 x35 x36 x37 x38 x39 x40 x41 x42 x43 x44 x45 x46 x47 x48:DV) :
    ∃ m h k',f157_J0 Qb lo (V r n) x1 x2 (.fn cf []) x8 x9 x10 (.ptr σ.length 0) (N i) (N j) (N l) x15 x16 x17 x18 x19 x20 x21 x22 x23 x24 x25 x26 x27 x28 x29 x30 x31 x32 x33 x34 x35 x36 x37 x38 x39 x40 x41 x42 x43 x44 x45 x46 x47 x48 (Q σ r A k)=some (.tuple [N m,.p (.int .i64 h)],Q σ r A k')∧(m=i∨m=j∨m=l):=by
  obtain ⟨m,k',e1,h1⟩:=me_ok hc hr hlo hi hj hl hA k
  rw [f157_J0_eq Qb]
  simp only [Qs,List.append_nil,e1,gG]
  obtain ⟨h,e2⟩:=cp_J1 (lo:=lo) hr A k' m _ _ _ _ _ _ _ _ _ _ _ _ _ _ _ _ _ _ _ _ _ _ _ _ _ _ _ _ _ _ _ _ _ _ _ _ _ _ _ _ _ _ _ _ _ _ _ _ _
  exact ⟨m,h,k',e2,h1⟩
theorem quo4 {l:Nat} (h:l≤1000000):binOp PP .quo 3 (.p (.int .i64 (l:Nat))) (.p (.int .i64 4))=some (.p (.int .i64 ((l / 4:Nat):Int))):=by
  have e3:((l:Nat):Int).tdiv 4=((l / 4:Nat):Int):=by rw [Int.tdiv_eq_ediv_of_nonneg (by omega)]; omega
  have e4:binOp PP .quo 3 (.p (.int .i64 ((l:Nat):Int))) (.p (.int .i64 4))=some (.p (.int .i64 (IntKind.wrap .i64 (((l:Nat):Int).tdiv 4)))):=Eq.trans rfl rfl
  rw [e4,e3,QL (by omega) (by omega)]
theorem mulC {a c:Nat} (h:a≤1000000) (hc:c≤3):binOp PP .mul 3 (.p (.int .i64 (a:Nat))) (.p (.int .i64 (c:Nat)))=some (.p (.int .i64 ((a*c:Nat):Int))):=by
  have:a*c≤1000000*3:=Nat.mul_le_mul h hc
  rw [b_mul,QL (by have:=Int.natCast_nonneg (a*c); rw [Int.natCast_mul] at this; omega) (by rw [←Int.natCast_mul]; omega)]
  rfl
theorem mul1 {a:Nat} (h:a≤1000000):binOp PP .mul 3 (.p (.int .i64 (a:Nat))) (.p (.int .i64 1))=some (.p (.int .i64 ((a:Nat):Int))):=(mulC (c:=1) h (by omega)).trans (by rw [Nat.mul_one])
theorem mulB {a:Nat} (h:a≤1000000):binOp PP .mul 3 (.p (.int .i64 (a:Nat))) (.p (.int .i64 2))=some (.p (.int .i64 ((a*2:Nat):Int))):=mulC (c:=2) h (by omega)
theorem mulD {a:Nat} (h:a≤1000000):binOp PP .mul 3 (.p (.int .i64 (a:Nat))) (.p (.int .i64 3))=some (.p (.int .i64 ((a*3:Nat):Int))):=mulC (c:=3) h (by omega)
theorem z3:Qz PP 3=some [.p (.int .i64 0)]:=Eq.trans (by kernel_rfl) rfl
include hc in
theorem cp_ok (hr:r<σ.length) (hlo:lo≤r) (hn:n≤100000) {a b:Nat} (hab:a+12<b) (hb:b≤n) {A:List E} (hA:A.length=n) :
    ∃ p h k',CC lo 157 [V r n,N a,N b,.fn cf []] (W σ r A)=some (.tuple [N p,.p (.int .i64 h)],Q σ r A k')∧a≤p∧p<b:=by
  have hw:(W σ r A)++[Row.mix [.p (.int .i64 0)]]=Q σ r A 0:=W_snoc hr A _
  have hl:List.length (W σ r A)=σ.length:=W_len _ _ _
  by_cases h50:b-a<50
  · obtain ⟨m,h,k',e1,h1⟩:=cp_J0 (lo:=lo) hc hr hlo (i:=a+(b-a) / 4) (j:=a+(b-a) / 4*2) (l:=a+(b-a) / 4*3) (by omega) (by omega) (by omega) hA 0 _ _ _ _ _ _ _ _ _ _ _ _ _ _ _ _ _ _ _ _ _ _ _ _ _ _ _ _ _ _ _ _ _ _ _ _ _ _ _
    refine ⟨m,h,k',F157_call ?_,by omega,by omega⟩
    rw [F157_eq]
    simp (disch:=omega) only [V,N,subN,z3,quo4,mul1,mulB,mulD,addN,Zm,geT,geF,gG,hw,hl]
    exact e1
  · obtain ⟨m1,k1,f1,g1⟩:=Jk hc hr hlo hn (i:=a+(b-a) / 4) (by omega) (by omega) hA 0
    obtain ⟨m2,k2,f2,g2⟩:=Jk hc hr hlo hn (i:=a+(b-a) / 4*2) (by omega) (by omega) hA k1
    obtain ⟨m3,k3,f3,g3⟩:=Jk hc hr hlo hn (i:=a+(b-a) / 4*3) (by omega) (by omega) hA k2
    obtain ⟨m,h,k',e1,h1⟩:=cp_J0 (lo:=lo) hc hr hlo (i:=m1) (j:=m2) (l:=m3) (by omega) (by omega) (by omega) hA k3 _ _ _ _ _ _ _ _ _ _ _ _ _ _ _ _ _ _ _ _ _ _ _ _ _ _ _ _ _ _ _ _ _ _ _ _ _ _ _
    refine ⟨m,h,k',F157_call ?_,by omega,by omega⟩
    rw [F157_eq]
    simp only [V,N] at f1 f2 f3
    simp (disch:=omega) only [V,N,subN,z3,quo4,mul1,mulB,mulD,addN,Zm,geT,gG,hw,hl,Qs,List.append_nil]
    rw [f1]
    simp only [gG]
    rw [f2]
    simp only [gG]
    rw [f3]
    simp only [gG]
    exact e1
end
end Go.D.StT
end
/- The length of numbers in bits, the library's small random numbers, and the breaking of patterns. -/
section
set_option linter.unusedVariables false
set_option linter.unusedSimpArgs false
namespace Go.D.StT
open Go.D.Srt
theorem tab_ok:(List.range 256).all (fun m=>match UB[m]? with | some b=>decide (2 ^ b.toNat≤2*max m 1)&&decide (b.toNat≤8) | none=>false)=true:=by decide +kernel
theorem tab_at {m:Nat} (h:m<256):∃ b,UB[m]?=some b∧2 ^ b.toNat≤2*max m 1∧b.toNat≤8:=by
  have h1:=List.all_eq_true.1 tab_ok m (List.mem_range.2 h)
  cases e:UB[m]? with
  | none=>rw [e] at h1; simp at h1
  | some b=>
    rw [e] at h1
    simp only [Bool.and_eq_true,decide_eq_true_eq] at h1
    exact ⟨b,rfl,h1⟩
theorem UC {x:Int} (h0:0≤x) (h1:x<18446744073709551616):IntKind.wrap .u64 x=x:=by
  simp [IntKind.wrap,IntKind.signed,IntKind.bits]
  omega
theorem wrapB {x:Int} (h0:0≤x) (h1:x<256):IntKind.wrap .u8 x=x:=by
  simp [IntKind.wrap,IntKind.signed,IntKind.bits]
  omega
abbrev U (i:Nat):DV:=.p (.int .u64 (i:Int))
theorem geqU (t:TypeId) (a b:Int):binOp PP .geq t (.p (.int .u64 a)) (.p (.int .u64 b))=some (.p (.bool (decide (a≥b)))):=Eq.trans rfl rfl
theorem shr16 (t:TypeId) (n:Nat):binOp PP .shr t (.p (.int .u64 (n:Int))) (.p (.int .u64 16))=some (.p (.int .u64 ((n / 65536:Nat):Int))):=by
  have e:binOp PP .shr t (.p (.int .u64 (n:Int))) (.p (.int .u64 16))=some (.p (.int .u64 ((n:Int).fdiv (2 ^ 16)))):=Eq.trans rfl rfl
  rw [e,Int.fdiv_eq_ediv_of_nonneg _ (by decide)]
  congr 3
theorem shr8 (t:TypeId) (n:Nat):binOp PP .shr t (.p (.int .u64 (n:Int))) (.p (.int .u64 8))=some (.p (.int .u64 ((n / 256:Nat):Int))):=by
  have e:binOp PP .shr t (.p (.int .u64 (n:Int))) (.p (.int .u64 8))=some (.p (.int .u64 ((n:Int).fdiv (2 ^ 8)))):=Eq.trans rfl rfl
  rw [e,Int.fdiv_eq_ediv_of_nonneg _ (by decide)]
  congr 3
theorem cv_ub {m:Nat} (h:m<256):convert PP 178 5 (.p (.int .u64 (m:Int)))=some (.p (.int .u8 (m:Int))):=by
  have e:convert PP 178 5 (.p (.int .u64 (m:Int)))=some (.p (.int .u8 (IntKind.wrap .u8 m))):=Eq.trans (by kernel_rfl) rfl
  rw [e,wrapB (by omega) (by omega)]
theorem cv_bi {m:Nat} (h:m<256):convert PP 5 3 (.p (.int .u8 (m:Int)))=some (.p (.int .i64 (m:Int))):=by
  have e:convert PP 5 3 (.p (.int .u8 (m:Int)))=some (.p (.int .i64 (IntKind.wrap .i64 m))):=Eq.trans (by kernel_rfl) rfl
  rw [e,QL (by omega) (by omega)]
theorem Jc {m:Nat} (h:m≤1000000):convert PP 3 165 (.p (.int .i64 (m:Int)))=some (.p (.int .u64 (m:Int))):=by
  have e:convert PP 3 165 (.p (.int .i64 (m:Int)))=some (.p (.int .u64 (IntKind.wrap .u64 m))):=Eq.trans (by kernel_rfl) rfl
  rw [e,UC (by omega) (by omega)]
theorem cv_ix {m:Nat} (h:m≤1000000):convert PP 3 185 (.p (.int .i64 (m:Int)))=some (.p (.int .u64 (m:Int))):=by
  have e:convert PP 3 185 (.p (.int .i64 (m:Int)))=some (.p (.int .u64 (IntKind.wrap .u64 m))):=Eq.trans (by kernel_rfl) rfl
  rw [e,UC (by omega) (by omega)]
theorem cv_ui {m:Nat} (h:m≤1000000):convert PP 165 3 (.p (.int .u64 (m:Int)))=some (.p (.int .i64 (m:Int))):=by
  have e:convert PP 165 3 (.p (.int .u64 (m:Int)))=some (.p (.int .i64 (IntKind.wrap .i64 m))):=Eq.trans (by kernel_rfl) rfl
  rw [e,QL (by omega) (by omega)]
theorem uTS:PP.underlying 9=some .string:=Eq.trans (by kernel_rfl) rfl
theorem idx_tab {m:Nat} {b:UInt8} (h:UB[m]?=some b):index PP 9 (.p (.str UB)) (.p (.int .u8 (m:Int)))=some (.p (.int .u8 b.toNat)):=by
  have h0:(0:Int)≤(m:Int):=by omega
  simp only [index,uTS,h0,if_true,Int.toNat_natCast,h]
theorem L64_J2 {m c:Nat} (hm:m<256) (hc:c≤100) (x3 x4 x5 x6 x7 x8 x9 x10 x11 x12 x13 x14 x15 x16 x17 x18:DV) (σ:Qa):∃ b:Nat,f135_J2 Qb 0 (U m) (N c) x3 x4 x5 x6 x7 x8 x9 x10 x11 x12 x13 x14 x15 x16 x17 x18 σ=some (N (c+b),σ)∧2 ^ b≤2*max m 1∧b≤8:=by
  obtain ⟨b,h1,h2,h3⟩:=tab_at hm
  refine ⟨b.toNat,?_,h2,h3⟩
  rw [f135_J2_eq Qb]
  simp (disch:=omega) only [U,N,cv_ub hm,idx_tab h1,gG]
  rw [cv_bi (by omega)]
  simp (disch:=omega) only [addN,gG]
theorem L64_run {n:Nat} (hn:n≤1000000):∃ b:Nat,F135 Qb 0 (U n) []=some (N b,[])∧2 ^ b≤2*max n 1∧b≤24:=by
  rw [F135_eq]
  have h0:¬ ((n:Int)≥4294967296):=by omega
  have a8:binOp PP .add 3 (.p (.int .i64 0)) (.p (.int .i64 8))=some (N 8):=by rw [ZX]; rfl
  have a16:binOp PP .add 3 (.p (.int .i64 0)) (.p (.int .i64 16))=some (N 16):=by rw [ZX]; rfl
  by_cases h1:n<256
  · obtain ⟨b,e,h2,h3⟩:=L64_J2 (c:=0) h1 (by omega) _ _ _ _ _ _ _ _ _ _ _ _ _ _ _ _ []
    refine ⟨b,?_,h2,by omega⟩
    simp (disch:=omega) only [U,N,geqU,geF,gG,f135_J0_eq,f135_J1_eq]
    rw [Nat.zero_add] at e
    exact e
  · by_cases h4:n<65536
    · obtain ⟨b,e,h2,h3⟩:=L64_J2 (m:=n / 256) (c:=8) (by omega) (by omega) _ _ _ _ _ _ _ _ _ _ _ _ _ _ _ _ []
      refine ⟨8+b,?_,?_,by omega⟩
      · simp (disch:=omega) only [U,N,geqU,geF,geT,gG,f135_J0_eq,f135_J1_eq,shr8,a8]
        exact e
      · rw [Nat.pow_add]; omega
    · obtain ⟨b,e,h2,h3⟩:=L64_J2 (m:=n / 65536) (c:=16) (by omega) (by omega) _ _ _ _ _ _ _ _ _ _ _ _ _ _ _ _ []
      refine ⟨16+b,?_,?_,by omega⟩
      · simp (disch:=omega) only [U,N,geqU,geF,geT,gG,f135_J0_eq,f135_J1_eq,shr16,a16]
        exact e
      · rw [Nat.pow_add]; omega
theorem Jd {n:Nat} (hn:n≤1000000):∃ b:Nat,(∀ σ,Qx CC 122 [U n] σ=some (N b))∧2 ^ b≤2*max n 1∧b≤24:=by
  obtain ⟨b,e,h2,h3⟩:=L64_run hn
  refine ⟨b,fun σ=>?_,h2,h3⟩
  have h1:∀ σ,Qx CC 135 [U n] σ=some (N b):=fun σ=>Qn rfl rfl (F135_call e) rfl
  refine Qn rfl rfl (F122_call (r:=(N b,[])) ?_) rfl
  rw [F122_eq]
  simp only [U,N] at h1
  simp only [U,N,gG,Qc,List.append_nil,h1]
theorem np_ok {n:Nat} (hn:n≤1000000):∃ m:Nat,(∀ σ,Qx CC 147 [N n] σ=some (U m))∧m≤2*max n 1∧1≤m:=by
  obtain ⟨b,e,h2,h3⟩:=Jd hn
  have hb:2 ^ b≤2 ^ 24:=Nat.pow_le_pow_right (by decide) h3
  refine ⟨2 ^ b,fun σ=>Qn rfl rfl (F147_call (r:=(U (2 ^ b),[])) ?_) rfl,h2,Nat.pos_of_ne_zero (by simp)⟩
  have e1:binOp PP .shl 165 (.p (.int .u64 1)) (.p (.int .i64 (b:Nat)))=some (.p (.int .u64 ((2 ^ b:Nat):Int))):=by
    have e2:binOp PP .shl 165 (.p (.int .u64 1)) (.p (.int .i64 (b:Nat)))=some (.p (.int .u64 (IntKind.wrap .u64 (1*2 ^ (min b 64))))):=by
      have h0:¬ ((b:Nat):Int)<0:=by omega
      have e5:IntKind.bits .u64=64:=rfl
      simp only [binOp,binShift,h0,if_false,Int.toNat_natCast,Option.map_some,e5]
    have e3:(1:Int)*2 ^ (min b 64)=((2 ^ b:Nat):Int):=by rw [Nat.min_eq_left (by omega)]; simp
    have e6:((2 ^ b:Nat):Int)<18446744073709551616:=by omega
    rw [e2,e3,UC (Int.natCast_nonneg _) e6]
  simp only [U] at e
  rw [F147_eq]
  simp (disch:=omega) only [U,N,Jc,gG,Qc,List.append_nil,e,e1]
def QU (σ:Qa) (r:Nat) (A:List E) (k:Int):Qa:=W (σ++[Row.mix [.p (.int .u64 k)]]) r A
section
variable {r n lo : Nat} {σ : Qa}
theorem QU_load (hr:r<σ.length) (A:List E) (k:Int):load PP 185 (.ptr σ.length 0) (QU σ r A k)=some (.p (.int .u64 k)):=by
  have e:∀ x σ,load PP 185 x σ=ZG x σ:=fun x σ=>Eq.trans (by kernel_rfl) rfl
  rw [e,Qd (off:=0) (cs:=[.p (.int .u64 k)]) ?_ rfl]
  exact Qv QE (by omega)
theorem sX:size? PP 185=some 1:=Eq.trans (by kernel_rfl) rfl
theorem QU_store (hr:r<σ.length) (hlo:lo≤r) (A:List E) (k k':Int):store PP lo 185 (.ptr σ.length 0) (.p (.int .u64 k')) (QU σ r A k)=some (QU σ r A k'):=by
  have h1:(QU σ r A k)[σ.length]?=some (.mix [.p (.int .u64 k)]):=Qv QE (by omega)
  have h2:lo≤σ.length:=by omega
  have h3:(QU σ r A k).set σ.length (.mix [.p (.int .u64 k')])=QU σ r A k':=by
    unfold QU
    rw [W,List.set_comm _ _ (by omega),List.set_append_right _ _ (Nat.le_refl _),Nat.sub_self]
    rfl
  simp only [store,sX,DV.cells,List.length_singleton,if_true,Zs,h2,h1]
  rw [←h3]
  rfl
theorem shlX (t:TypeId) (a:Int):∃ v,binOp PP .shl t (.p (.int .u64 a)) (.p (.int .u64 13))=some (.p (.int .u64 v)):=⟨_,Eq.trans rfl rfl⟩
theorem shrX (t:TypeId) (a:Int):∃ v,binOp PP .shr t (.p (.int .u64 a)) (.p (.int .u64 7))=some (.p (.int .u64 v)):=⟨_,Eq.trans rfl rfl⟩
theorem shlY (t:TypeId) (a:Int):∃ v,binOp PP .shl t (.p (.int .u64 a)) (.p (.int .u64 17))=some (.p (.int .u64 v)):=⟨_,Eq.trans rfl rfl⟩
theorem xorX (t:TypeId) (a b:Int):∃ v,binOp PP .xor t (.p (.int .u64 a)) (.p (.int .u64 b))=some (.p (.int .u64 v)):=⟨_,Eq.trans rfl rfl⟩
theorem andX (t:TypeId) (a:Int) {b:Nat} (hb:b<18446744073709551616):∃ m:Nat,binOp PP .and t (.p (.int .u64 a)) (.p (.int .u64 (b:Int)))=some (.p (.int .u64 (m:Int)))∧m≤b:=by
  have e:binOp PP .and t (.p (.int .u64 a)) (.p (.int .u64 (b:Int)))=some (.p (.int .u64 (IntKind.wrap .u64 (BitVec.ofInt 64 a&&& BitVec.ofInt 64 (b:Int)).toNat))):=Eq.trans rfl rfl
  have h:(BitVec.ofInt 64 a&&& BitVec.ofInt 64 (b:Int)).toNat≤b:=by
    rw [BitVec.toNat_and]
    refine Nat.le_trans Nat.and_le_right ?_
    rw [BitVec.toNat_ofInt]
    omega
  exact ⟨_,by rw [e,UC (by omega) (by omega)],h⟩
theorem nx_ok (hr:r<σ.length) (hlo:lo≤r) (A:List E) (k:Int):∃ k',CC lo 148 [.ptr σ.length 0] (QU σ r A k)=some (.p (.int .u64 k'),QU σ r A k'):=by
  obtain ⟨v1,h1⟩:=shlX 185 k
  obtain ⟨v2,h2⟩:=xorX 185 k v1
  obtain ⟨v3,h3⟩:=shrX 185 v2
  obtain ⟨v4,h4⟩:=xorX 185 v2 v3
  obtain ⟨v5,h5⟩:=shlY 185 v4
  obtain ⟨v6,h6⟩:=xorX 185 v4 v5
  refine ⟨v6,F148_call ?_⟩
  have e3:∀ s off,QX (.ptr s off)=some (.ptr s off):=fun _ _=>rfl
  rw [F148_eq]
  simp only [e3,gG,QU_load hr,h1,h2,h3,h4,h5,h6,QU_store hr hlo]
theorem bp_J0 (hr:r<σ.length) (hlo:lo≤r) (hn:n≤100000) {a idx o:Nat} (h1:idx<n) (h2:a+o<n) {A:List E} (hA:A.length=n) (k:Int) (x8 x9 x10 x28 x29 x30 x31 x32 x33 x34 x35 x38 x39 x40 x41 x42 x43 x44 x45 x46 x47 x48:DV) :
    f156_J0 Qb lo (V r n) (N a) x8 x9 x10 (N idx) (N o) x28 x29 x30 x31 x32 x33 x34 x35 x38 x39 x40 x41 x42 x43 x44 x45 x46 x47 x48 (QU σ r A k)=f156_L0 Qb lo (V r n) (N a) x8 x9 x10 (N (idx+1)) (QU σ r (swp A idx (a+o)) k):=by
  have hr':r<(σ++[Row.mix [.p (.int .u64 k)]]).length:=by simp; omega
  have h3:(A.set idx (ge A (a+o))).length=n:=by rw [QT]; exact hA
  rw [f156_J0_eq Qb]
  simp (disch:=omega) only [V,N,QU,addN,idxL,ldW,stW,add1,gG,swp]
theorem Jp (hr:r<σ.length) (hlo:lo≤r) (hn:n≤100000) {a b m:Nat} (hab:a+12<b) (hb:b≤n) (hm:m≤2*(b-a)) (hm1:1≤m):∀ (d idx:Nat) (A:List E) (k:Int),a+(b-a) / 4*2+2-idx=d→a≤idx→A.length=n→
    ∃ B k',RP a b A B∧f156_L0 Qb lo (V r n) (N a) (N (b-a)) (.ptr σ.length 0) (U m) (N idx) (QU σ r A k)=some (.tuple [],QU σ r B k')
  | 0,idx,A,k,hd,hi,hA=>by
    refine ⟨A,k,RP.refl _ _ _,?_⟩
    rw [f156_L0_eq Qb rfl]
    simp (disch:=omega) only [V,N,quo4,mulB,addN,add1,Za,leF,gG]
  | d+1,idx,A,k,hd,hi,hA=>by
    obtain ⟨k1,e1⟩:=nx_ok hr hlo A k
    obtain ⟨o,e2,h2⟩:=andX 165 k1 (b:=m-1) (by omega)
    have e3:binOp PP .sub 165 (.p (.int .u64 (m:Int))) (.p (.int .u64 1))=some (.p (.int .u64 ((m-1:Nat):Int))):=by
      have e4:binOp PP .sub 165 (.p (.int .u64 (m:Int))) (.p (.int .u64 1))=some (.p (.int .u64 (IntKind.wrap .u64 ((m:Int)-1)))):=Eq.trans rfl rfl
      rw [e4,UC (by omega) (by omega)]
      congr 3
      omega
    by_cases h:b-a≤o
    · obtain ⟨B,k',g1,g2⟩:=Jp hr hlo hn hab hb hm hm1 d (idx+1) (swp A idx (a+(o-(b-a)))) k1 (by omega) (by omega) (by rw [QA]; exact hA)
      refine ⟨B,k',(RP.swap (a:=a) (b:=b) (i:=idx) (j:=a+(o-(b-a))) ⟨hi,by omega⟩ ⟨by omega,by omega⟩ (by omega)).trans g1,?_⟩
      rw [f156_L0_eq Qb rfl]
      simp (disch:=omega) only [V,N,quo4,mulB,addN,add1,Za,leT,gG,Qs,List.append_nil,e1,U,e3,e2,cv_ui,Zm,geT,subN]
      exact (bp_J0 hr hlo hn (by omega) (by omega) hA k1 _ _ _ _ _ _ _ _ _ _ _ _ _ _ _ _ _ _ _ _ _ _).trans g2
    · obtain ⟨B,k',g1,g2⟩:=Jp hr hlo hn hab hb hm hm1 d (idx+1) (swp A idx (a+o)) k1 (by omega) (by omega) (by rw [QA]; exact hA)
      refine ⟨B,k',(RP.swap (a:=a) (b:=b) (i:=idx) (j:=a+o) ⟨hi,by omega⟩ ⟨by omega,by omega⟩ (by omega)).trans g1,?_⟩
      rw [f156_L0_eq Qb rfl]
      simp (disch:=omega) only [V,N,quo4,mulB,addN,add1,Za,leT,gG,Qs,List.append_nil,e1,U,e3,e2,cv_ui,Zm,geF]
      exact (bp_J0 hr hlo hn (by omega) (by omega) hA k1 _ _ _ _ _ _ _ _ _ _ _ _ _ _ _ _ _ _ _ _ _ _).trans g2
theorem zX:Qz PP 185=some [.p (.int .u64 0)]:=Eq.trans (by kernel_rfl) rfl
theorem bp_ok (hr:r<σ.length) (hlo:lo≤r) (hn:n≤100000) {a b:Nat} (hab:a+12<b) (hb:b≤n) {A:List E} (hA:A.length=n) (y:DV) :
    ∃ B k',RP a b A B∧CC lo 156 [V r n,N a,N b,y] (W σ r A)=some (.tuple [],QU σ r B k'):=by
  obtain ⟨m,e1,h1,h2⟩:=np_ok (n:=b-a) (by omega)
  have hm:max (b-a) 1=b-a:=by omega
  rw [hm] at h1
  obtain ⟨B,k',g1,g2⟩:=Jp hr hlo hn hab hb h1 h2 _ (a+(b-a) / 4*2-1) A ((b-a:Nat):Int) rfl (by omega) hA
  refine ⟨B,k',g1,F156_call ?_⟩
  have hw:(W σ r A)++[Row.mix [.p (.int .u64 0)]]=QU σ r A 0:=W_snoc hr A _
  have hl:List.length (W σ r A)=σ.length:=W_len _ _ _
  simp only [N,U] at e1
  rw [F156_eq]
  simp (disch:=omega) only [V,N,subN,Zm,geT,gG,cv_ix,zX,hw,hl,QU_store,Qc,List.append_nil,e1,quo4,mulB,addN,sub1]
  exact g2
end
end Go.D.StT
end
