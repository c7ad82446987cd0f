/- AuxiliaryHistories: for every graph, every history variable and every path the law answers true and leaves its arguments as they were: the given statement, without conditions. -/
import Derived.Test.YtkpdgafinpedgaaGreatRk
import Derived.Test.YtkpdgafinpedgaaGreatRc
import Derived.Test.YtkpdgafinpedgaaGreatRf
/- Chapter 22: results compared; numbers of pairs. -/
section
set_option linter.unusedVariables false
set_option linter.unusedSimpArgs false
namespace Go.D.StS
open Go.D.Srt
theorem S21 {x:Ax} (h1:x.g.n≤400) (h2:(L x.g.edges).length≤2000) (σ:Qa):Qx CC 21 [.agg (eAx x)] σ=some (.p (.bool false)):=by
  have g0:([Row.mix (eAx x)]:Qa)[0]?=some (.mix (eAx x)):=rfl
  have q1:¬ (x.g.n>400):=by omega
  have q2:¬ (((L x.g.edges).length:Int)>2000):=by omega
  refine Qn (by simp [Vp]) rfl (F21_call (r:=(.p (.bool false),[.mix (eAx x)])) ?_) rfl
  rw [F21_eq]
  simp only [Uc,gG,List.length_nil,List.nil_append,Wj,ZP,Zj,Qe,Qf,Nat.zero_add,Nat.add_zero,Qc,List.append_nil,List.singleton_append,List.cons_append,List.nil_append,QJ,Zh,Qd (off:=0) g0 (v:=.p (.int .i64 x.g.n)) rfl,Qd (off:=2) g0 (v:=.p (eEs x.g.edges)) rfl,Zi,gtF q1,gtF q2,Wz]
theorem neE' (a b c a' b' c':Int):binOp PP .neq 69 (.agg (edgD ⟨a,b,c⟩)) (.agg (edgD ⟨a',b',c'⟩))=((match some (a==a') with | some true=>(match some (b==b') with | some true=>(match some (c==c') with | some true=>some true | r=>r) | r=>r) | r=>r):Option Bool).map fun b=>.p (.bool !b):=by kernel_rfl
theorem neE (x:Edg):binOp PP .neq 69 (.agg (edgD x)) (.agg (edgD x))=some (.p (.bool false)):=by
  obtain ⟨a,b,c⟩:=x
  rw [neE']
  simp
section
variable {a b : Gr} (hn : a.n = b.n) (hi : L a.init = L b.init) (he : L a.edges = L b.edges) (hil : (L a.init).length ≤ 1000) (hel : (L a.edges).length ≤ 10000)
include hn hi he hil hel
omit hn hi hil in
theorem L93 {σ:Qa} (g0:σ[0]?=some (.mix (eGr a))) (g1:σ[1]?=some (.mix (eGr b))):∀ (d i:Nat),(L a.edges).length-i=d→i≤(L a.edges).length→
    f93_L0 Qb 0 (.ptr 0 0) (.ptr 1 0) (N i) σ=some (.p (.bool true),σ)
  | 0,i,hd,hj=>by
    rw [f93_L0_eq Qb rfl]
    simp (disch:=omega) only [N,Zj,Qe,Qf,Nat.zero_add,Nat.add_zero,Qc,List.append_nil,List.singleton_append,List.cons_append,List.nil_append,Zh,Qd (off:=2) g0 (v:=.p (eEs a.edges)) rfl,Wz,Qp,ltF,gG]
  | d+1,i,hd,hj=>by
    have hil:i<(L a.edges).length:=by omega
    have hil2:i<(L b.edges).length:=by rw [←he]; exact hil
    have ih:=L93 g0 g1 d (i+1) (by omega) (by omega)
    have hld:=ld69 hil2 σ
    rw [←he] at hld
    rw [f93_L0_eq Qb rfl]
    have ix2:=Uj (o:=b.edges) hil2
    rw [←he] at ix2
    simp (disch:=omega) only [N,Zj,Qe,Qf,Nat.zero_add,Nat.add_zero,Qc,List.append_nil,List.singleton_append,List.cons_append,List.nil_append,Zh,Qd (off:=2) g0 (v:=.p (eEs a.edges)) rfl,Qd (off:=2) g1 (v:=.p (eEs b.edges)) rfl,Wz,Qp,ltT,gG,Uj,ix2,load69,ld69,hld,neE,add1]
    exact ih
theorem S93 (σ:Qa):Qx CC 93 [.agg (eGr a),.agg (eGr b)] σ=some (.p (.bool true)):=by
  have g0:([Row.mix (eGr a),.mix (eGr b)]:Qa)[0]?=some (.mix (eGr a)):=rfl
  have g1:([Row.mix (eGr a),.mix (eGr b)]:Qa)[1]?=some (.mix (eGr b)):=rfl
  have hL:=L93 he hel g0 g1 _ 0 rfl (Nat.zero_le _)
  have q1:((L a.edges).length:Int)=((L b.edges).length:Nat):=by rw [he]
  refine Qn (by simp [Zx]) rfl (F93_call (r:=(.p (.bool true),[.mix (eGr a),.mix (eGr b)])) ?_) rfl
  rw [F93_eq]
  simp only [Zo,gG,List.length_nil,List.nil_append,List.length_cons,List.cons_append,ZP,WA,Zj,Qe,Qf,Nat.zero_add,Nat.add_zero,Qc,List.append_nil,List.singleton_append,List.cons_append,List.nil_append,QJ,QH,Zh,Qd (off:=0) g0 (v:=.p (.int .i64 a.n)) rfl,Qd (off:=0) g1 (v:=.p (.int .i64 b.n)) rfl,Qd (off:=1) g0 (v:=.p (eSl a.init)) rfl,Qd (off:=1) g1 (v:=.p (eSl b.init)) rfl,
    Qd (off:=2) g0 (v:=.p (eEs a.edges)) rfl,Qd (off:=2) g1 (v:=.p (eEs b.edges)) rfl,ZO,eqT hn,S34 hi hil,Wz,eqT q1]
  exact hL
end
structure SameX (x y:Ax):Prop where
  n:x.g.n=y.g.n
  i:L x.g.init=L y.g.init
  e:L x.g.edges=L y.g.edges
  b:L x.b=L y.b
  a:L x.a=L y.a
theorem S58 {x y:Ax} (h:SameX x y) (hs:XSm x) (σ:Qa):Qx CC 58 [.agg (eAx x),.agg (eAx y)] σ=some (.p (.bool true)):=by
  have g0:([Row.mix (eAx x),.mix (eAx y)]:Qa)[0]?=some (.mix (eAx x)):=rfl
  have g1:([Row.mix (eAx x),.mix (eAx y)]:Qa)[1]?=some (.mix (eAx y)):=rfl
  refine Qn (by simp [Vp]) rfl (F58_call (r:=(.p (.bool true),[.mix (eAx x),.mix (eAx y)])) ?_) rfl
  rw [F58_eq]
  simp only [Uc,gG,List.length_nil,List.nil_append,List.length_cons,List.cons_append,Wj,We,WW,Qe,Qf,Nat.zero_add,Nat.add_zero,Qc,List.append_nil,List.singleton_append,List.cons_append,List.nil_append,ax_g g0,ax_g g1,S93 h.n h.i h.e hs.i hs.e,QH,Qd (off:=3) g0 (v:=.p (eSl x.b)) rfl,Qd (off:=3) g1 (v:=.p (eSl y.b)) rfl,S34 h.b hs.b,Qd (off:=4) g0 (v:=.p (eSl x.a)) rfl,Qd (off:=4) g1 (v:=.p (eSl y.a)) rfl,S34 h.a hs.a]
def eRs (x:Ax) (e:Int):List DV:=[.p (pI x.g.n),.p (eSl x.g.init),.p (eEs x.g.edges),.p (eSl x.b),.p (eSl x.a),.p (.int .i64 e)]
theorem bld46 (x:Ax) (e:Int):build PP 46 [(0,.agg (eAx x)),(1,.p (.int .i64 e))]=some (.agg (eRs x e)):=Eq.trans (by kernel_rfl) rfl
theorem fa46_0 (x:DV):fieldAddr PP 46 x 0=QO x 0:=Eq.trans (by kernel_rfl) rfl
theorem fa46_1 (x:DV):fieldAddr PP 46 x 1=QO x 5:=Eq.trans (by kernel_rfl) rfl
theorem box_rs (x:Ax) (e:Int):boxV (.agg (eRs x e))=some (eRs x e):=rfl
theorem rs_view (x:Ax) (e:Int):view (.agg (eRs x e))=.agg (eRs x e):=by simp [view,Zv,eRs,ZE,WQ,Zp]
theorem rs_x {σ:Qa} {r:Nat} {x:Ax} {e:Int} (h:σ[r]?=some (.mix (eRs x e))):load PP 33 (.ptr r 0) σ=some (.agg (eAx x)):=by
  rw [load33,QK (vs:=eAx x) h rfl (by simp [eRs])]; rfl
theorem S19a {x y:Ax} (h:SameX x y) (hs:XSm x) (h1:y.g.n≤400) (h2:(L y.g.edges).length≤2000) (σ:Qa):Qx CC 19 [.agg (eRs x 0),.p (.int .i64 0),.agg (eAx y)] σ=some (.p (.bool true)):=by
  have g0:([Row.mix (eRs x 0),.mix (eAx y)]:Qa)[0]?=some (.mix (eRs x 0)):=rfl
  have g1:([Row.mix (eRs x 0),.mix (eAx y)]:Qa)[1]?=some (.mix (eAx y)):=rfl
  have q:decide ((0:Int)=0)=true:=rfl
  refine Qn (by simp [Vp,rs_view]; rfl) rfl (F19_call (r:=(.p (.bool true),[.mix (eRs x 0),.mix (eAx y)])) ?_) rfl
  rw [F19_eq]
  simp only [Uc,box_rs,gG,List.length_nil,List.nil_append,List.length_cons,List.cons_append,Zc,q,Qe,Qf,Nat.zero_add,Nat.add_zero,Qc,List.append_nil,List.singleton_append,List.cons_append,List.nil_append,VJ g1,S21 h1 h2,f19_J0_eq,ZO,fa46_0,fa46_1,load34,Qd (off:=5) g0 (v:=.p (.int .i64 0)) rfl,rs_x g0,S58 h hs]
theorem S19b {c:Int} (hc:c≠0) (σ:Qa):Qx CC 19 [.agg (eRs zAx c),.p (.int .i64 c),.agg (eAx zAx)] σ=some (.p (.bool true)):=by
  have g0:([Row.mix (eRs zAx c),.mix (eAx zAx)]:Qa)[0]?=some (.mix (eRs zAx c)):=rfl
  have q:decide (c=c)=true:=decide_eq_true rfl
  have hs:XSm zAx:=⟨by simp [zAx,L],by simp [zAx,L],by simp [zAx,L],by simp [zAx,L]⟩
  refine Qn (by simp [Vp,rs_view]; rfl) rfl (F19_call (r:=(.p (.bool true),[.mix (eRs zAx c),.mix (eAx zAx)])) ?_) rfl
  rw [F19_eq]
  simp only [Uc,box_rs,gG,List.length_nil,List.nil_append,List.length_cons,List.cons_append,Zc,eqF hc,Qe,Qf,Nat.zero_add,Nat.add_zero,Qc,List.append_nil,List.singleton_append,List.cons_append,List.nil_append,f19_J0_eq,ZO,fa46_0,fa46_1,load34,Qd (off:=5) g0 (v:=.p (.int .i64 c)) rfl,q,rs_x g0,bld33_0,S58 ⟨rfl,rfl,rfl,rfl,rfl⟩ hs]
section
variable {x : Ax} {B : List E} (hb : L x.b = B.map Prod.fst) (ha : L x.a = B.map Prod.snd) (hB : Asc B) (hBl : B.length ≤ 1000)
include hb ha hB hBl
theorem L64 {σ:Qa} (g0:σ[0]?=some (.mix (eAx x))) {e:E} (he:e∈B):∀ (d i:Nat),B.idxOf e-i=d→i≤B.idxOf e→f64_L0 Qb 0 (.p (.int .i64 e.1)) (.p (.int .i64 e.2)) (.ptr 0 0) (N i) σ=some (.p (.int .i64 (B.idxOf e:Nat)),σ):=by
  intro d
  induction d with
  | zero=>
    intro i hd hi
    have hei:B.idxOf e=i:=by omega
    obtain ⟨k1,k2⟩:=ZR he
    rw [hei] at k1 k2
    have hbl:(L x.b).length=B.length:=by rw [hb,List.length_map]
    have hal:(L x.a).length=B.length:=by rw [ha,List.length_map]
    have ixb:=Wn (o:=x.b) (i:=i) (by omega)
    have ixa:=Wn (o:=x.a) (i:=i) (by omega)
    have ldb:=QD (l:=L x.b) (i:=i) (by omega) σ
    have lda:=QD (l:=L x.a) (i:=i) (by omega) σ
    have q1:(L x.b).getD i 0=e.1:=by rw [hb,QZ 0 (by simpa using k1),List.getElem_map,←ZA k1,k2]
    have q2:(L x.a).getD i 0=e.2:=by rw [ha,QZ 0 (by simpa using k1),List.getElem_map,←ZA k1,k2]
    rw [q1] at ldb
    rw [q2] at lda
    simp only [pI] at ldb lda
    have q3:decide (e.1=e.1)=true:=decide_eq_true rfl
    have q4:decide (e.2=e.2)=true:=decide_eq_true rfl
    rw [f64_L0_eq Qb rfl,hei]
    simp (disch:=omega) only [N,We,WW,Qe,Qf,Nat.zero_add,Nat.add_zero,Qc,List.append_nil,List.singleton_append,List.cons_append,List.nil_append,QH,Qd (off:=3) g0 (v:=.p (eSl x.b)) rfl,Qd (off:=4) g0 (v:=.p (eSl x.a)) rfl,QP,Qp,ltT,gG,ixb,ixa,QJ,ldb,lda,Zc,q3,q4]
  | succ d ih=>
    intro i hd hi
    obtain ⟨k1,k2⟩:=ZR he
    have hil:i<B.length:=by omega
    have hbl:(L x.b).length=B.length:=by rw [hb,List.length_map]
    have hal:(L x.a).length=B.length:=by rw [ha,List.length_map]
    have ixb:=Wn (o:=x.b) (i:=i) (by omega)
    have ixa:=Wn (o:=x.a) (i:=i) (by omega)
    have ldb:=QD (l:=L x.b) (i:=i) (by omega) σ
    have lda:=QD (l:=L x.a) (i:=i) (by omega) σ
    have q1:(L x.b).getD i 0=(ge B i).1:=by rw [hb,QZ 0 (by simpa using hil),List.getElem_map,←ZA hil]
    have q2:(L x.a).getD i 0=(ge B i).2:=by rw [ha,QZ 0 (by simpa using hil),List.getElem_map,←ZA hil]
    rw [q1] at ldb
    rw [q2] at lda
    simp only [pI] at ldb lda
    have hne:ge B i≠e:=fun h=>by
      rw [ZA k1] at k2
      rw [ZA hil] at h
      have:=(List.getElem_inj (asc_nodup hB)).1 (h.trans k2.symm)
      omega
    have r1:=ih (i+1) (by omega) (by omega)
    rw [←r1,f64_L0_eq Qb rfl]
    by_cases h1:(ge B i).1=e.1
    · have h2:¬ (ge B i).2=e.2:=fun h2=>hne (Prod.ext h1 h2)
      simp (disch:=omega) only [N,We,WW,Qe,Qf,Nat.zero_add,Nat.add_zero,Qc,List.append_nil,List.singleton_append,List.cons_append,List.nil_append,QH,Qd (off:=3) g0 (v:=.p (eSl x.b)) rfl,Qd (off:=4) g0 (v:=.p (eSl x.a)) rfl,QP,Qp,ltT,gG,ixb,ixa,QJ,ldb,lda,Zc,eqT h1,eqF h2,add1]
    · simp (disch:=omega) only [N,We,WW,Qe,Qf,Nat.zero_add,Nat.add_zero,Qc,List.append_nil,List.singleton_append,List.cons_append,List.nil_append,QH,Qd (off:=3) g0 (v:=.p (eSl x.b)) rfl,Qd (off:=4) g0 (v:=.p (eSl x.a)) rfl,QP,Qp,ltT,gG,ixb,ixa,QJ,ldb,lda,Zc,eqF h1,add1]
theorem S64 {e:E} (he:e∈B) (σ:Qa):Qx CC 64 [.agg (eAx x),.p (.int .i64 e.1),.p (.int .i64 e.2)] σ=some (.p (.int .i64 (B.idxOf e:Nat))):=by
  have g0:([Row.mix (eAx x)]:Qa)[0]?=some (.mix (eAx x)):=rfl
  refine Qn (by simp [Vp]; exact ⟨rfl,rfl⟩) rfl (F64_call (r:=(.p (.int .i64 (B.idxOf e:Nat)),[.mix (eAx x)])) ?_) rfl
  rw [F64_eq]
  simp only [Uc,gG,List.length_nil,List.nil_append]
  exact L64 hb ha hB hBl g0 he _ 0 rfl (Nat.zero_le _)
end
end Go.D.StS
end
/- Chapter 22: paths lifted by a history variable. -/
section
set_option linter.unusedVariables false
set_option linter.unusedSimpArgs false
namespace Go.D.StS
open Go.D.Srt
theorem slice1L {l:List Int} (h:1≤l.length):ZY PP 22 (.p (eSl (some l))) (some (.p (.int .i64 1))) none none=some (.p (eSl (some (l.drop 1)))):=by
  have h1:(1:Int)≤(l.length:Nat):=by omega
  have e:((Qu l).drop 1).take (l.length-1)=Qu (l.drop 1):=by
    rw [List.take_of_length_le (by simp [Qu])]
    simp [Qu]
  simp [ZY,u22,s3,WG,eSl,h1,h]
  simpa using e
def LO (σ:Qa) (lo n:Nat) (cs:List PV) (y:DV):Prop:=(y=.p (.sl true n cs)∧cs.length=n∧n≠0)∨(n≠0∧Out σ lo 1 n cs y)
theorem LO.push {σ:Qa} {B n:Nat} {cs:List PV} {y:DV} (h:LO σ B n cs y) (hn:n≤1000000) (hB:B≤σ.length) (v:PV) :
    ∃ y' σ',append PP 0 false 22 22 y (.p (.sl true 1 [v])) σ=some (y',σ')∧LO σ' B (n+1) (cs++[v]) y'∧(∀ (j:Nat) (row:Row),(∀ ver,row≠.tok ver)→σ[j]?=some row→σ'[j]?=some row)∧B≤σ'.length:=by
  rcases h with ⟨rfl,h1,h2⟩ | ⟨h0,ho⟩
  · refine ⟨.osl σ.length 0 1 (n+1) (cs++[v]),σ++[.tok 0],?_,.inr ⟨by omega,by simp [h1],.inr ⟨by omega,σ.length,0,rfl,QE,hB⟩⟩,fun j row _ g=>QV g,by simp; omega⟩
    have hsrc:Wb σ 1 (.p (.sl true 1 [v]))=some (1,[DV.p v]):=rfl
    have e1:(n+1)*8≤140737488355328:=by omega
    have e2:n+1≤140737488355328:=by omega
    simp only [append,Uy,u22,s3,VH,Ur,hsrc,UO]
    simp [e1,e2,h1,VN,DV.pure?]
  · obtain ⟨y',σ',p1,p2,p3,p4⟩:=Out.pushG (lo:=0) (vs:=[v]) Uy u22 s3 VH Ur rfl (by decide) (by decide) (by decide) rfl ho (by omega) hB (Nat.zero_le _)
    refine ⟨y',σ',p1,.inr ⟨by omega,p2⟩,fun j row hr g=>Others.mix p3 ho g hr,?_⟩
    rcases p2.2 with ⟨e,_⟩ | ⟨_,r,ver,_,e,e2⟩
    · omega
    · have:=QW e; omega
theorem LO.all {σ σ':Qa} {lo n m:Nat} {l:List Int} {y:DV} (h:LO σ lo n (Qu l) y):Zf m σ' y=some (.p (eSl (some l)))∧thaw m σ' y=some (.p (eSl (some l)))∧Zw m σ' y=some (.p (eSl (some l))):=by
  rcases h with ⟨rfl,h1,h2⟩ | ⟨h0,ho⟩
  · have e:Zp (.sl true n (Qu l))=eSl (some l):=by
      rw [Zp,Zr]
      rw [ints_length] at h1
      rw [←h1]; rfl
    have e2:thaw m σ' (.p (.sl true n (Qu l)))=some (.p (Zp (.sl true n (Qu l)))):=rfl
    have e3:Zw m σ' (.p (.sl true n (Qu l)))=some (.p (Zp (.sl true n (Qu l)))):=rfl
    have e4:Zf m σ' (.p (.sl true n (Qu l)))=some (.p (Zp (.sl true n (Qu l)))):=rfl
    rw [e2,e3,e4,e]
    exact ⟨rfl,rfl,rfl⟩
  · have hl:l.length=n:=by have:=ho.1; rw [ints_length] at this; omega
    rcases ho.2 with ⟨h1,_⟩ | ⟨_,r,ver,rfl,_,_⟩
    · exact absurd h1 h0
    · have e:(DV.p (.sl false n (QN (Qu l))))=.p (eSl (some l)):=by rw [Zr,←hl]; rfl
      have e2:thaw m σ' (.osl r ver 1 n (Qu l))=some (.p (.sl false n (QN (Qu l)))):=rfl
      have e3:Zw m σ' (.osl r ver 1 n (Qu l))=some (.p (.sl false n (QN (Qu l)))):=rfl
      have e4:Zf m σ' (.osl r ver 1 n (Qu l))=some (.p (.sl false n (QN (Qu l)))):=rfl
      rw [e2,e3,e4,e]
      exact ⟨rfl,rfl,rfl⟩
theorem LO.low {σ:Qa} {lo n:Nat} {cs:List PV} {y:DV} (h:LO σ lo n cs y) {q:Nat} (hq:q<lo) (row:Row):LO (σ.set q row) lo n cs y:=by
  rcases h with h1 | ⟨h0,ho⟩
  · exact .inl h1
  · exact .inr ⟨h0,Out.setLow ho hq row⟩
theorem idxFrom_any {α:Type} [Inhabited α] (q:α→Bool):∀ (l:List α) (i:Nat),l.any q=true→∃ j,j<l.length∧QG q l i=((i+j:Nat):Int)∧q (l.getD j default)=true
  | [],i,h=>by simp at h
  | a::l,i,h=>by
    unfold QG
    by_cases h1:q a=true
    · exact ⟨0,by simp,by rw [if_pos h1]; rfl,h1⟩
    · have h2:l.any q=true:=by
        rw [List.any_cons,Bool.or_eq_true] at h; rcases h with h | h
        · exact absurd h h1
        · exact h
      obtain ⟨j,h3,h4,h5⟩:=idxFrom_any q l (i+1) h2
      exact ⟨j+1,by simpa using h3,by rw [if_neg h1,h4]; congr 1; omega,by simpa using h5⟩
structure PthOk (g:Gr) (p:List Int):Prop where
  ne:p.length≠0
  le:p.length≤60
  inr:∀ k,k<p.length→0≤p.getD k 0∧p.getD k 0<g.n
  ini:p.getD 0 0∈L g.init
  stp:∀ k,k+1<p.length→(L g.edges).any (VE (p.getD k 0) (p.getD (k+1) 0))=true
theorem pth_ok {g:Gr} {p:List Int} (hg:GOk g) (h:pthE g p=0):PthOk g p:=by
  unfold pthE at h
  by_cases h1:p.length=0
  · rw [if_pos h1] at h; exact absurd h (by decide)
  · rw [if_neg h1] at h
    by_cases h2:p.length>60
    · rw [if_pos h2] at h; exact absurd h (by decide)
    · rw [if_neg h2] at h
      cases h3:p.any (badN g) with
      | true=>rw [h3] at h; simp at h
      | false=>
        rw [h3] at h
        simp only [Bool.false_eq_true,if_false] at h
        by_cases h4:(hasI (L g.init) (p.getD 0 0)&&QM (stpK g p) 1 (p.length-1))=true
        · rw [Bool.and_eq_true,allFrom_iff] at h4
          refine ⟨h1,by omega,fun k hk=>?_,?_,fun k hk=>?_⟩
          · have:=any_false h3 k hk
            have hp:pred g.n=g.n-1:=by have:=hg.n0; exact QL (by omega) (by omega)
            unfold badN at this
            have h6:inR (p.getD k 0) 0 (pred g.n)=true:=by simpa using this
            rw [WF,hp] at h6
            omega
          · have:=h4.1
            unfold hasI at this
            rw [List.any_eq_true] at this
            obtain ⟨v,hv,e⟩:=this
            rw [decide_eq_true_iff] at e
            rw [e]; exact hv
          · have:=h4.2 (k+1) (by omega) (by omega)
            unfold stpK at this
            rwa [Nat.add_sub_cancel] at this
        · rw [if_neg h4] at h; exact absurd h (by decide)
def sI (g:Gr) (p:List Int) (k:Nat):Nat:=(QG (VE (p.getD k 0) (p.getD (k+1) 0)) (L g.edges) 0).toNat
theorem sI_ok {g:Gr} {p:List Int} (hp:PthOk g p) {k:Nat} (hk:k+1<p.length):sI g p k<(L g.edges).length∧QG (VE (p.getD k 0) (p.getD (k+1) 0)) (L g.edges) 0=((sI g p k:Nat):Int)∧(gE (L g.edges) (sI g p k)).f=p.getD k 0∧(gE (L g.edges) (sI g p k)).t=p.getD (k+1) 0:=by
  obtain ⟨j,h1,h2,h3⟩:=idxFrom_any (VE (p.getD k 0) (p.getD (k+1) 0)) (L g.edges) 0 (hp.stp k hk)
  rw [Nat.zero_add] at h2
  have e:sI g p k=j:=by unfold sI; rw [h2]; rfl
  rw [e]
  unfold VE at h3
  rw [Bool.and_eq_true,decide_eq_true_iff,decide_eq_true_iff] at h3
  exact ⟨h1,h2,h3.1,h3.2⟩
def vH (g:Gr) (h:Hs) (p:List Int):Nat→Int
  | 0=>(L h.s).getD (p.getD 0 0).toNat 0
  | k+1=>(L ((L h.x).getD (sI g p k) none)).getD (vH g h p k).toNat 0
def sH (g:Gr) (h:Hs) (p:List Int) (k:Nat):E:=(p.getD k 0,vH g h p k)
def nmH (B:List E) (g:Gr) (h:Hs) (p:List Int) (k:Nat):List Int:=(List.range k).map fun k=>((B.idxOf (sH g h p k):Nat):Int)
theorem nmH_succ (B:List E) (g:Gr) (h:Hs) (p:List Int) (k:Nat):nmH B g h p (k+1)=nmH B g h p k++[((B.idxOf (sH g h p k):Nat):Int)]:=by
  unfold nmH; rw [List.range_succ,List.map_append]; rfl
theorem nmH_len (B:List E) (g:Gr) (h:Hs) (p:List Int) (k:Nat):(nmH B g h p k).length=k:=by simp [nmH]
section
variable {g : Gr} {h : Hs} {B : List E} {E' : List Edg} {p : List Int} (hx : ExtG g.n (fun x => oE (mvH g h x)) (iniH g h) B E') (hp : PthOk g p)
include hx hp
theorem UE:∀ k,k<p.length→sH g h p k∈B
  | 0,hk=>by
    refine hx.beg _ ?_
    unfold iniH
    rw [List.mem_map]
    exact ⟨p.getD 0 0,hp.ini,rfl⟩
  | k+1,hk=>by
    have ih:=UE k (by omega)
    obtain ⟨h1,h2,h3,h4⟩:=sI_ok hp hk
    have hv:=(hx.ins _ ih).2
    have he:mvE g h (sH g h p k) (sI g p k)∈L (oE (mvH g h (sH g h p k))):=by
      rw [L_oE]
      exact List.mem_map.2 ⟨sI g p k,Uh.2 ⟨h1,h3⟩,rfl⟩
    have:=hx.cl _ ih _ he
    have e:toE (mvE g h (sH g h p k) (sI g p k))=sH g h p (k+1):=by
      unfold toE mvE sH
      simp only
      rw [h4]
      rfl
    rwa [e] at this
theorem vH_in {k:Nat} (hk:k<p.length):0≤vH g h p k∧vH g h p k≤7:=(hx.ins _ (UE hx hp k hk)).2
end
end Go.D.StS
end
/- Chapter 22: LiftHistory, in the program and in the reference. -/
section
set_option linter.unusedVariables false
set_option linter.unusedSimpArgs false
namespace Go.D.StS
open Go.D.Srt
section
variable {g : Gr} {h : Hs} {B : List E} {E' : List Edg} {o : OI} (hh : HOk g h) (he : (L g.edges).length ≤ 16) (hx : ExtG g.n (fun x => oE (mvH g h x)) (iniH g h) B E') (hp : PthOk g (L o))
include hh he hx hp
omit he in
theorem lift_facts {k:Nat} (hk:k+1<(L o).length) (σ:Qa):indexAddr PP 26 (.p (eLs h.x)) (.p (.int .i64 (sI g (L o) k:Nat)))=some (.pptr ((L h.x).map eSl) (sI g (L o) k))∧
    ZG (.pptr ((L h.x).map eSl) (sI g (L o) k)) σ=some (.p (eSl ((L h.x).getD (sI g (L o) k) none)))∧
    indexAddr PP 22 (.p (eSl ((L h.x).getD (sI g (L o) k) none))) (.p (.int .i64 (vH g h (L o) k)))=some (.pptr (Qu (L ((L h.x).getD (sI g (L o) k) none))) (vH g h (L o) k).toNat)∧
    ZG (.pptr (Qu (L ((L h.x).getD (sI g (L o) k) none))) (vH g h (L o) k).toNat) σ=some (.p (.int .i64 (vH g h (L o) (k+1)))):=by
  obtain ⟨h1,h2,h3,h4⟩:=sI_ok hp hk
  have hv:=vH_in hx hp (show k<(L o).length by omega)
  have hxl:sI g (L o) k<(L h.x).length:=by rw [hh.xl]; exact h1
  have hr:=hh.xr _ hxl
  refine ⟨Uz hxl,ldLs hxl σ,idxi hv.1 (by omega),?_⟩
  have:=QD (l:=L ((L h.x).getD (sI g (L o) k) none)) (i:=(vH g h (L o) k).toNat) (by omega) σ
  exact this
theorem L24 {x:Ax} (hb:L x.b=B.map Prod.fst) (ha:L x.a=B.map Prod.snd) (hBl:B.length≤1000):∀ (d k:Nat) (y:DV) (σ:Qa),(L o).length-k=d→1≤k→k≤(L o).length→σ[0]?=some (.mix (eGr g))→σ[1]?=some (.mix (eHs h))→σ[2]?=some (.mix (eAx x))→LO σ 3 k (Qu (nmH B g h (L o) k)) y→
    ∃ y' σ',f24_L0 Qb 0 (.p (eSl o)) (.ptr 0 0) (.ptr 1 0) (.ptr 2 0) (.p (.int .i64 (vH g h (L o) (k-1)))) y (N k) σ=some (y',σ')∧LO σ' 3 (L o).length (Qu (nmH B g h (L o) (L o).length)) y'
  | 0,k,y,σ,hd,h1,hk,g0,g1,g2,ho=>by
    have e:k=(L o).length:=by omega
    have hle:=hp.le
    refine ⟨y,σ,?_,by rw [←e]; exact ho⟩
    rw [f24_L0_eq Qb rfl]
    simp (disch:=omega) only [N,QP,Qp,ltF,gG]
  | d+1,k,y,σ,hd,h1,hk,g0,g1,g2,ho=>by
    have hkl:k<(L o).length:=by omega
    have hle:=hp.le
    have hek:k-1+1=k:=by omega
    obtain ⟨w1,w2,w3,w4⟩:=sI_ok hp (show k-1+1<(L o).length by omega)
    obtain ⟨u1,u2,u3,u4⟩:=lift_facts hh hx hp (show k-1+1<(L o).length by omega) σ
    rw [hek] at w2 u4
    have ix1:=Wn (o:=o) (i:=k) hkl
    have ix2:=Wn (o:=o) (i:=k-1) (by omega)
    have ld1:=QD (l:=L o) hkl σ
    have ld2:=QD (l:=L o) (i:=k-1) (by omega) σ
    have h63:=S63 (g:=g) (s:=(L o).getD (k-1) 0) (t:=(L o).getD k 0) (σ:=σ) (by omega)
    rw [w2] at h63
    have h64:=S64 hb ha hx.asc hBl (UE hx hp k hkl) σ
    unfold sH at h64
    simp only [pI] at ld1 ld2 h63
    have g0':load PP 25 (.ptr 0 0) σ=some (.agg (eGr g)):=by rw [UH,QK (vs:=eGr g) g0 rfl (by simp [eGr])]; rfl
    obtain ⟨y1,σ1,p1,p2,p3,p4⟩:=ho.push (by omega) (QW g2) (pI ((B.idxOf (sH g h (L o) k):Nat):Int))
    have e1:Qu (nmH B g h (L o) k)++[pI ((B.idxOf (sH g h (L o) k):Nat):Int)]=Qu (nmH B g h (L o) (k+1)):=by rw [nmH_succ]; simp [Qu]
    rw [e1] at p2
    obtain ⟨y',σ',r1,r2⟩:=L24 hb ha hBl d (k+1) y1 σ1 (by omega) (by omega) (by omega) (p3 _ _ (fun v e=>by cases e) g0) (p3 _ _ (fun v e=>by cases e) g1) (p3 _ _ (fun v e=>by cases e) g2) p2
    refine ⟨y',σ',?_,r2⟩
    rw [Nat.add_sub_cancel] at r1
    unfold sH at p1
    rw [←r1,f24_L0_eq Qb rfl]
    simp (disch:=omega) only [N,QP,Qp,ltT,gG,Wk,Qe,Qf,Nat.zero_add,Nat.add_zero,Qc,List.append_nil,List.singleton_append,List.cons_append,List.nil_append,Wi,Qd (off:=1) g1 (v:=.p (eLs h.x)) rfl,g0',sub1,ix1,ix2,QJ,ld1,ld2,h63,u1,QH,u2,u3,u4,VJ g2,h64,VI,p1,add1]
theorem S24 {x:Ax} (hb:L x.b=B.map Prod.fst) (ha:L x.a=B.map Prod.snd) (hBl:B.length≤1000) (h20:∀ σ,Qx CC 20 [.agg (eGr g),.agg (eHs h)] σ=some (.agg (eAx x))) (σ:Qa) :
    Qx CC 24 [.agg (eGr g),.agg (eHs h),.p (eSl o)] σ=some (.p (eSl (some (nmH B g h (L o) (L o).length)))):=by
  have g0:([Row.mix (eGr g),.mix (eHs h),.mix (eAx x)]:Qa)[0]?=some (.mix (eGr g)):=rfl
  have g1:([Row.mix (eGr g),.mix (eHs h),.mix (eAx x)]:Qa)[1]?=some (.mix (eHs h)):=rfl
  have g2:([Row.mix (eGr g),.mix (eHs h),.mix (eAx x)]:Qa)[2]?=some (.mix (eAx x)):=rfl
  have hle:=hp.le
  have hne:=hp.ne
  have h0:0<(L o).length:=by omega
  have hsl:=hh.sl
  have hi0:=hp.inr 0 h0
  have lo0:LO [Row.mix (eGr g),.mix (eHs h),.mix (eAx x)] 3 1 (Qu (nmH B g h (L o) 1)) (.p (.sl true 1 (Qu (nmH B g h (L o) 1)))):=.inl ⟨rfl,rfl,by decide⟩
  obtain ⟨y,σ',a1,a2⟩:=L24 hh he hx hp hb ha hBl _ 1 _ _ rfl (Nat.le_refl 1) (by omega) g0 g1 g2 lo0
  have ix0:=Wn (o:=o) (i:=0) h0
  have ld0:=QD (l:=L o) h0 [Row.mix (eGr g),.mix (eHs h),.mix (eAx x)]
  have ixs:=idx22i (o:=h.s) (i:=(L o).getD 0 0) hi0.1 (by omega)
  have lds:=QD (l:=L h.s) (i:=((L o).getD 0 0).toNat) (by omega) [Row.mix (eGr g),.mix (eHs h),.mix (eAx x)]
  simp only [pI] at ld0 lds
  have h64:=S64 hb ha hx.asc hBl (UE hx hp 0 h0) [Row.mix (eGr g),.mix (eHs h),.mix (eAx x)]
  have h64':Qx CC 64 [.agg (eAx x),.p (.int .i64 ((L o).getD 0 0)),.p (.int .i64 ((L h.s).getD ((L o).getD 0 0).toNat 0))] [Row.mix (eGr g),.mix (eHs h),.mix (eAx x)]=some (.p (.int .i64 (B.idxOf (sH g h (L o) 0):Nat))):=h64
  have hst:store PP 0 33 (.ptr 2 0) (.agg (eAx x)) [Row.mix (eGr g),.mix (eHs h),.mix Z5]=some [Row.mix (eGr g),.mix (eHs h),.mix (eAx x)]:=st33 (c:=eAx x) (σ:=[Row.mix (eGr g),.mix (eHs h),.mix Z5]) (t:=2) rfl rfl rfl rfl
  have hz:Qz PP 33=some Z5:=Um
  have hld1:load PP 28 (.ptr 1 0) [Row.mix (eGr g),.mix (eHs h)]=some (.agg (eHs h)):=UL rfl
  have hld0:load PP 25 (.ptr 0 0) [Row.mix (eGr g),.mix (eHs h)]=some (.agg (eGr g)):=Ws rfl
  refine Qn (by simp [Zx,VD,Zg]) rfl (F24_call (r:=(y,σ')) ?_) a2.all.1
  have e00:(DV.p (.int .i64 0))=.p (.int .i64 ((0:Nat):Int)):=rfl
  rw [F24_eq]
  simp only [Zo,Wx,gG,List.length_nil,List.nil_append,List.length_cons,List.cons_append,Qe,Qf,Nat.zero_add,Nat.add_zero,Qc,List.append_nil,List.singleton_append,List.cons_append,List.nil_append,hld0,hld1,h20,hz,hst,Wt,QH,Qd (off:=0) g1 (v:=.p (eSl h.s)) rfl]
  have ix0':=ix0
  rw [←e00] at ix0'
  simp only [gG,ix0',QJ,ld0,ixs,lds,VJ g2,h64',VI]
  exact a1
end
section
variable {g : Gr} {h : Hs} {B : List E} {E' : List Edg} {o : OI} (hh : HOk g h) (he : (L g.edges).length ≤ 16) (hx : ExtG g.n (fun x => oE (mvH g h x)) (iniH g h) B E') (hp : PthOk g (L o))
include hh he hx hp
omit hh he hx hp in
theorem st102 {σ:Qa} {r:Nat} {a b:E} (h:σ[r]?=some (.mix (cel a))):store PP 0 102 (.ptr r 0) (val b) σ=some (σ.set r (.mix (cel b))):=by
  have e1:(val b).cells=cel b:=rfl
  have e3:QS (cel a) 0 (cel b)=cel b:=rfl
  have e4:(cel a).length=2:=rfl
  simp [store,sE,e1,ZN,Zs,h,cel_one,e3,e4]
theorem L15 {m c r:Nat} {mp:List (E×Int)} {cs:List DV} (hmp:∀ e∈B,(WZ mp e).getD 0=((B.idxOf e:Nat):Int)) (hrc:r<c) (hmc:m<c) (hmr:m<r) (h1r:1<m) :
    ∀ (d k:Nat) (y:DV) (σ:Qa),(L o).length-1-k=d→k+1≤(L o).length→σ[0]?=some (.mix (eGr g))→σ[1]?=some (.mix (eHs h))→(∃ q,σ[m]?=some (.mix cs)∧cs[5]?=some (.map q)∧q<r∧σ[q]?=some (.map (entZ mp)))→σ[r]?=some (.mix (cel (sH g h (L o) k)))→LO σ c (k+1) (Qu (nmH B g h (L o) (k+1))) y→c≤σ.length→
    ∃ y' σ',f15_L0 Qb 0 (.ptr 0 0) (.ptr 1 0) (.ptr m 0) (.ptr r 0) y (.p (eSl (some ((L o).drop 1)))) (N ((L o).length-1)) (N k) σ=some (.tuple [y',.p (.int .i64 0)],σ')∧LO σ' c (L o).length (Qu (nmH B g h (L o) (L o).length)) y'
  | 0,k,y,σ,hd,hk,g0,g1,g2,g3,ho,hc=>by
    have e:k+1=(L o).length:=by omega
    have hle:=hp.le
    refine ⟨y,σ,?_,by rw [←e]; exact ho⟩
    rw [f15_L0_eq Qb rfl]
    simp (disch:=omega) only [N,Qp,ltF,gG]
  | d+1,k,y,σ,hd,hk,g0,g1,g2,g3,ho,hc=>by
    have hkl:k+1<(L o).length:=by omega
    have hle:=hp.le
    obtain ⟨q,q1,q2,q3,q4⟩:=g2
    obtain ⟨w1,w2,w3,w4⟩:=sI_ok hp hkl
    obtain ⟨u1,u2,u3,u4⟩:=lift_facts hh hx hp hkl σ
    have hdl:(L (some ((L o).drop 1))).length=(L o).length-1:=by simp [L]
    have ix1:=Wn (o:=some ((L o).drop 1)) (i:=k) (by omega)
    have ld1:=QD (l:=L (some ((L o).drop 1))) (i:=k) (by omega) σ
    have ed:(L (some ((L o).drop 1))).getD k 0=(L o).getD (k+1) 0:=by simp [L,List.getD_eq_getElem?_getD,Nat.add_comm]
    rw [ed] at ld1
    have h55:=S55 (g:=g) (s:=(L o).getD k 0) (t:=(L o).getD (k+1) 0) (σ:=σ) (by omega)
    rw [w2] at h55
    simp only [pI] at ld1 h55
    have g0':load PP 25 (.ptr 0 0) σ=some (.agg (eGr g)):=by rw [UH,QK (vs:=eGr g) g0 rfl (by simp [eGr])]; rfl
    have f0:ZG (.ptr r 0) σ=some (.p (.int .i64 ((L o).getD k 0))):=Qd g3 rfl
    have f1:ZG (.ptr r 1) σ=some (.p (.int .i64 (vH g h (L o) k))):=Qd g3 rfl
    have hst:=st102 (b:=sH g h (L o) (k+1)) g3
    have hrl:=QW g3
    have k3:(σ.set r (.mix (cel (sH g h (L o) (k+1)))))[r]?=some (.mix (cel (sH g h (L o) (k+1)))):=by rw [List.getElem?_set_self hrl]
    have k0:=Qv (r:=.mix (cel (sH g h (L o) (k+1)))) g0 (show 0≠r by omega)
    have k1:=Qv (r:=.mix (cel (sH g h (L o) (k+1)))) g1 (show 1≠r by omega)
    have km:=Qv (r:=.mix (cel (sH g h (L o) (k+1)))) q1 (show m≠r by omega)
    have kq:=Qv (r:=.mix (cel (sH g h (L o) (k+1)))) q4 (show q≠r by omega)
    have ho1:=ho.low hrc (.mix (cel (sH g h (L o) (k+1))))
    have hlen:c≤(σ.set r (.mix (cel (sH g h (L o) (k+1))))).length:=by simpa using hc
    have hlk:=lookZ0 kq (sH g h (L o) (k+1))
    rw [hmp _ (UE hx hp (k+1) hkl)] at hlk
    have bld:build PP 102 [(0,.p (.int .i64 ((L o).getD (k+1) 0))),(1,.p (.int .i64 (vH g h (L o) (k+1))))]=some (val (sH g h (L o) (k+1))):=bld102 _ _
    generalize hσ1:σ.set r (.mix (cel (sH g h (L o) (k+1))))=σ1 at *
    obtain ⟨y1,σ2,p1,p2,p3,p4⟩:=ho1.push (by omega) hlen (pI ((B.idxOf (sH g h (L o) (k+1)):Nat):Int))
    have e1:Qu (nmH B g h (L o) (k+1))++[pI ((B.idxOf (sH g h (L o) (k+1)):Nat):Int)]=Qu (nmH B g h (L o) (k+1+1)):=by rw [nmH_succ B g h (L o) (k+1)]; simp [Qu]
    rw [e1] at p2
    obtain ⟨y',σ',r1,r2⟩:=L15 hmp hrc hmc hmr h1r d (k+1) y1 σ2 (by omega) (by omega) (p3 _ _ (fun v e=>by cases e) k0) (p3 _ _ (fun v e=>by cases e) k1) ⟨q,p3 _ _ (fun v e=>by cases e) km,q2,q3,p3 _ _ (fun v e=>by cases e) kq⟩ (p3 _ _ (fun v e=>by cases e) k3) p2 p4
    refine ⟨y',σ',?_,r2⟩
    rw [←r1,f15_L0_eq Qb rfl]
    simp (disch:=omega) only [N,Qp,ltT,gG,ix1,QJ,ld1,Wk,Qe,Qf,Nat.zero_add,Nat.add_zero,Qc,List.append_nil,List.singleton_append,List.cons_append,List.nil_append,Wi,Qd (off:=1) g1 (v:=.p (eLs h.x)) rfl,g0',fa102_0,fa102_1,f0,f1,h55,u1,QH,u2,u3,u4,bld,hst,UM,UF,Qd (off:=5) km q2,UX k3,hlk,VI,p1,add1]
end
end Go.D.StS
end
/- Chapter 22: LiftHistory as a whole; lifted paths hidden again. -/
section
set_option linter.unusedVariables false
set_option linter.unusedSimpArgs false
namespace Go.D.StS
open Go.D.Srt
theorem bs143_2i (x y:Int) (σ:Qa):buildSlice PP none 143 2 [(0,.p (.int .i64 x)),(1,.p (.int .i64 y))] σ=some (.p (.sl true 2 (Qu [x,y])),σ):=bs143_2' x y σ
section
variable {g : Gr} {h : Hs} {o : OI}
theorem S15e (hi:(L g.init).length≤1000) (he:(L g.edges).length≤10000) (hr:∀ j,j<(L h.x).length→(L ((L h.x).getD j none)).length≤1000) (hl:(L h.x).length≤1000) (hs:(L h.s).length≤1000) (h0:errH g h≠0) (σ:Qa) :
    Qx CC 15 [.agg (eGr g),.agg (eHs h),.p (eSl o)] σ=some (.tuple [.p .nilsl,.p (.int .i64 (errH g h))]):=by
  have h50:=S50 hr hl hs hi he [Row.mix (eGr g),.mix (eHs h)]
  simp only [pI] at h50
  have hld1:load PP 28 (.ptr 1 0) [Row.mix (eGr g),.mix (eHs h)]=some (.agg (eHs h)):=UL rfl
  have hld0:load PP 25 (.ptr 0 0) [Row.mix (eGr g),.mix (eHs h)]=some (.agg (eGr g)):=Ws rfl
  refine Qn (by simp [Zx,VD,Zg]) rfl (F15_call (r:=(.tuple [.p .nilsl,.p (.int .i64 (errH g h))],[Row.mix (eGr g),.mix (eHs h)])) ?_) rfl
  rw [F15_eq]
  simp only [Zo,Wx,gG,List.length_nil,List.nil_append,List.length_cons,List.cons_append,Qe,Qf,Nat.zero_add,Nat.add_zero,Qc,List.append_nil,List.singleton_append,List.cons_append,List.nil_append,hld0,hld1,h50,ZO,eqF h0]
section
variable (hg:GOk g) (hh:HOk g h) (hn:g.n≤8) (he:(L g.edges).length≤16) (h0:errH g h=0) (hol:(L o).length≤1000)
include hg hh hn he h0 hol
theorem S15 (σ:Qa):∃ B E',ExtG g.n (fun x=>oE (mvH g h x)) (iniH g h) B E'∧
    Qx CC 15 [.agg (eGr g),.agg (eHs h),.p (eSl o)] σ=some (if pthE g (L o)=0 then .tuple [.p (eSl (some (nmH B g h (L o) (L o).length))),.p (.int .i64 0)] else .tuple [.p .nilsl,.p (.int .i64 (pthE g (L o)))]):=by
  have hil:=Vx hg
  have hnn:=hg.n0
  have hxl:=hh.xl
  have hsl:=hh.sl
  have h50:=S50 (h:=h) (fun j hj=>by rw [hh.xr j hj]; decide) (by omega) (by omega) (g:=g) (by omega) (by omega) [Row.mix (eGr g),.mix (eHs h)]
  rw [h0] at h50
  simp only [pI] at h50
  have hld1:load PP 28 (.ptr 1 0) [Row.mix (eGr g),.mix (eHs h)]=some (.agg (eHs h)):=UL rfl
  have hld0:load PP 25 (.ptr 0 0) [Row.mix (eGr g),.mix (eHs h)]=some (.agg (eGr g)):=Ws rfl
  obtain ⟨B,E',ix,ex,bx,ax,σ1,r,mp,a1,a2,a3,a4,a5,a6,a7⟩:=S51 hg hh hn he [Row.mix (eGr g),.mix (eHs h)]
  simp only [pI] at a1
  have g0:σ1[0]?=some (.mix (eGr g)):=(a4 0 (by simp)).trans rfl
  have g1:σ1[1]?=some (.mix (eHs h)):=(a4 1 (by simp)).trans rfl
  have hlen:6≤σ1.length:=a7
  have hone6:([.p (.int .i64 (B.length:Nat)),ix,ex,bx,ax,.map r]:List DV).all DV.one=true:=by
    simp [(Wf a3.re).1,(Wf a3.ri).1,(QQ a3.ob).1,(QQ a3.oa).1]
    exact ⟨rfl,rfl⟩
  have hs1:store PP 0 95 (.ptr σ1.length 0) (.agg [.p (.int .i64 (B.length:Nat)),ix,ex,bx,ax,.map r]) (σ1++[Row.mix [.p (.int .i64 0),.p .nilsl,.p .nilsl,.p .nilsl,.p .nilsl,.p .nilmap]])=some (σ1++[Row.mix [.p (.int .i64 (B.length:Nat)),ix,ex,bx,ax,.map r]]):=by
    rw [st95 QE rfl rfl hone6,List.set_append_right _ _ (Nat.le_refl _),Nat.sub_self]
    rfl
  have zero95i:Qz PP 95=some [.p (.int .i64 0),.p .nilsl,.p .nilsl,.p .nilsl,.p .nilsl,.p .nilmap]:=zero95'
  have k0:(σ1++[Row.mix [.p (.int .i64 (B.length:Nat)),ix,ex,bx,ax,.map r]])[0]?=some (.mix (eGr g)):=QV g0
  have k1:(σ1++[Row.mix [.p (.int .i64 (B.length:Nat)),ix,ex,bx,ax,.map r]])[1]?=some (.mix (eHs h)):=QV g1
  have km:(σ1++[Row.mix [.p (.int .i64 (B.length:Nat)),ix,ex,bx,ax,.map r]])[σ1.length]?=some (.mix [.p (.int .i64 (B.length:Nat)),ix,ex,bx,ax,.map r]):=QE
  have kr:(σ1++[Row.mix [.p (.int .i64 (B.length:Nat)),ix,ex,bx,ax,.map r]])[r]?=some (.map (entZ mp)):=QV a5
  have hrl:=QW a5
  have h54:=S54 (g:=g) (o:=o) (σ:=σ1++[Row.mix [.p (.int .i64 (B.length:Nat)),ix,ex,bx,ax,.map r]]) hol (by omega) (by omega)
  simp only [pI] at h54
  have hl2:(σ1++[Row.mix [.p (.int .i64 (B.length:Nat)),ix,ex,bx,ax,.map r]]).length=σ1.length+1:=by simp
  have hgl:=Ws k0
  generalize hσ2:σ1++[Row.mix [.p (.int .i64 (B.length:Nat)),ix,ex,bx,ax,.map r]]=σ2 at *
  have e0:decide ((0:Int)=0)=true:=rfl
  refine ⟨B,E',a2,?_⟩
  have h53:Qx CC 53 [.p (.sl true 2 (Qu [0,pthE g (L o)]))] σ2=some (.p (.int .i64 (pthE g (L o)))):=by
    rw [h53_2]
    simp [orL]
    exact fun h=>h.symm
  by_cases hp0:pthE g (L o)=0
  · rw [if_pos hp0]
    have hp:=pth_ok hg hp0
    have hne:=hp.ne
    have hle:=hp.le
    have hi0:=hp.inr 0 (by omega)
    rw [hp0] at h53 h54
    have ix0:=Wn (o:=o) (i:=0) (by omega)
    have ld0:=QD (l:=L o) (i:=0) (by omega) σ2
    have ixs:=idx22i (o:=h.s) (i:=(L o).getD 0 0) hi0.1 (by omega)
    have lds:=QD (l:=L h.s) (i:=((L o).getD 0 0).toNat) (by omega) σ2
    simp only [pI] at ld0 lds
    have hol2:∃ l,o=some l:=by
      cases o with
      | none=>exact absurd hne (by simp [L])
      | some l=>exact ⟨l,rfl⟩
    have hsn:=stNew (lo:=0) (σ:=σ2) (sH g h (L o) 0) (Nat.zero_le _)
    have bld:build PP 102 [(0,.p (.int .i64 ((L o).getD 0 0))),(1,.p (.int .i64 ((L h.s).getD ((L o).getD 0 0).toNat 0)))]=some (val (sH g h (L o) 0)):=bld102 _ _
    have n0:(σ2++[Row.mix (cel (sH g h (L o) 0))])[0]?=some (.mix (eGr g)):=QV k0
    have n1:(σ2++[Row.mix (cel (sH g h (L o) 0))])[1]?=some (.mix (eHs h)):=QV k1
    have nm:(σ2++[Row.mix (cel (sH g h (L o) 0))])[σ1.length]?=some (.mix [.p (.int .i64 (B.length:Nat)),ix,ex,bx,ax,.map r]):=QV km
    have nr:(σ2++[Row.mix (cel (sH g h (L o) 0))])[r]?=some (.map (entZ mp)):=QV kr
    have nn:(σ2++[Row.mix (cel (sH g h (L o) 0))])[σ2.length]?=some (.mix (cel (sH g h (L o) 0))):=QE
    have hl3:(σ2++[Row.mix (cel (sH g h (L o) 0))]).length=σ2.length+1:=by simp
    have hmp:∀ e∈B,(WZ mp e).getD 0=((B.idxOf e:Nat):Int):=fun e heB=>by
      obtain ⟨w1,w2⟩:=ZR heB
      have:=a6 _ w1
      rw [w2] at this
      rw [this]; rfl
    have hlk:=lookZ0 nr (sH g h (L o) 0)
    rw [hmp _ (UE a2 hp 0 (by omega))] at hlk
    have hlo:LO (σ2++[Row.mix (cel (sH g h (L o) 0))]) (σ2.length+1) (0+1) (Qu (nmH B g h (L o) (0+1))) (.p (.sl true 1 (Qu (nmH B g h (L o) 1)))):=.inl ⟨rfl,rfl,by decide⟩
    have hmrow:∃ q,(σ2++[Row.mix (cel (sH g h (L o) 0))])[σ1.length]?=some (.mix [.p (.int .i64 (B.length:Nat)),ix,ex,bx,ax,.map r])∧([.p (.int .i64 (B.length:Nat)),ix,ex,bx,ax,.map r]:List DV)[5]?=some (.map q)∧q<σ2.length∧(σ2++[Row.mix (cel (sH g h (L o) 0))])[q]?=some (.map (entZ mp)):=⟨r,nm,rfl,by omega,nr⟩
    obtain ⟨y,σ',b1,b2⟩:=L15 hh he a2 hp (m:=σ1.length) (c:=σ2.length+1) (r:=σ2.length) hmp (by omega) (by omega) (by omega) (by omega) _ 0 (.p (.sl true 1 (Qu (nmH B g h (L o) 1)))) _ rfl (by omega) n0 n1 hmrow nn hlo (by omega)
    have e00:(DV.p (.int .i64 0))=.p (.int .i64 ((0:Nat):Int)):=rfl
    have hsl1:ZY PP 22 (.p (eSl o)) (some (.p (.int .i64 1))) none none=some (.p (eSl (some ((L o).drop 1)))):=by
      obtain ⟨l,rfl⟩:=hol2
      exact slice1L (by simp only [L,Option.getD_some] at hne; omega)
    have hln:∀ σ,len PP 22 (.p (eSl (some ((L o).drop 1)))) σ=some (N ((L o).length-1)):=fun σ=>by rw [QP]; simp [L]
    refine Qn (by simp [Zx,VD,Zg]) rfl (F15_call (r:=(.tuple [y,.p (.int .i64 0)],σ')) ?_) ?_
    · rw [F15_eq]
      simp only [Zo,Wx,gG,List.length_nil,List.nil_append,List.length_cons,List.cons_append,Qe,Qf,Nat.zero_add,Nat.add_zero,Qc,List.append_nil,List.singleton_append,List.cons_append,List.nil_append,hld0,hld1,h50,ZO,e0,Qs,a1,ex0,ex1,zero95i,hs1,hgl,h54,bs143_2i,h53,Wt,QH,Qd (off:=0) k1 (v:=.p (eSl h.s)) rfl]
      have ix0':=ix0
      rw [←e00] at ix0'
      simp only [gG,ix0',QJ,ld0,ixs,lds,bld,UT,hsn,UM,Qe,Qf,Nat.zero_add,Nat.add_zero,Qc,List.append_nil,List.singleton_append,List.cons_append,List.nil_append,UF,Qd (off:=5) nm (v:=.map r) rfl,UX nn,hlk,VI,hsl1,hln]
      exact b1
    · rw [ta_tup]
      have:=b2.all (σ':=σ') (m:=0)
      simp only [mapO,this.2.2,tp_int,Option.map_some]
  · rw [if_neg hp0]
    refine Qn (by simp [Zx,VD,Zg]) rfl (F15_call (r:=(.tuple [.p .nilsl,.p (.int .i64 (pthE g (L o)))],σ2)) ?_) rfl
    rw [F15_eq]
    simp only [Zo,Wx,gG,List.length_nil,List.nil_append,List.length_cons,List.cons_append,Qe,Qf,Nat.zero_add,Nat.add_zero,Qc,List.append_nil,List.singleton_append,List.cons_append,List.nil_append,hld0,hld1,h50,ZO,e0,Qs,a1,ex0,ex1,zero95i,hs1,hgl,h54,bs143_2i,h53,eqF hp0]
end
end
end Go.D.StS
end
/- Chapter 22: lifted paths are paths, and hidden they are the path again. -/
section
set_option linter.unusedVariables false
set_option linter.unusedSimpArgs false
namespace Go.D.StS
open Go.D.Srt
theorem ext_uniq {n:Int} {M:E→OE} {l B B2:List E} {E1 E2:List Edg} (h:ExtG n M l B E1) (h2:ExtG n M l B2 E2):B=B2∧E1=E2:=by
  have e:B=B2:=sorted_eq (h.pb.trans h2.pb.symm) (asc_le h.asc) (asc_le h2.asc)
  subst e
  exact ⟨rfl,ordE_ext h.po h2.po fun x=>(h.pe.mem_iff).trans h2.pe.mem_iff.symm⟩
structure LiftOk (n:Int) (M:E→OE) (l B:List E) (E':List Edg) (p:List Int) (s:Nat→E) (nl:List Int):Prop where
  len:nl.length=p.length
  at':∀ k,k<p.length→nl.getD k 0=((B.idxOf (s k):Nat):Int)
  mem:∀ k,k<p.length→s k∈B
  fst:∀ k,k<p.length→(s k).1=p.getD k 0
  ini:s 0∈l
  stp:∀ k,k+1<p.length→∃ e∈L (M (s k)),toE e=s (k+1)∧e.a≠11
section
variable {n : Int} {M : E → OE} {l B : List E} {E' : List Edg} {p nl : List Int} {s : Nat → E} {Y : Ax} (hx : ExtG n M l B E') (hl : LiftOk n M l B E' p s nl) (h0 : p.length ≠ 0) (h60 : p.length ≤ 60) (hBl : B.length ≤ 400)
variable (yb:L Y.b=B.map Prod.fst) (yn:Y.g.n=(B.length:Nat)) (yi:L Y.g.init=nums B l) (ye:L Y.g.edges=E')
include hx hl
theorem lift_edge {k:Nat} (hk:k+1<p.length):∃ a:Int,a≠11∧(⟨nl.getD k 0,nl.getD (k+1) 0,a⟩:Edg)∈E':=by
  obtain ⟨e,he,h1,h2⟩:=hl.stp k hk
  refine ⟨e.a,h2,?_⟩
  obtain ⟨w1,w2⟩:=ZR (hl.mem k (by omega))
  rw [hx.pe.mem_iff,mem_rawE,hl.at' k (by omega),hl.at' (k+1) hk]
  exact ⟨B.idxOf (s k),w1,e,by rw [w2]; exact he,by rw [Nat.zero_add,h1]⟩
include h0 h60 hBl yn yi ye in
theorem lift_pth:pthE Y.g nl=0:=by
  unfold pthE
  rw [hl.len,if_neg h0,if_neg (by omega)]
  have hp:pred Y.g.n=Y.g.n-1:=QL (by omega) (by omega)
  have h3:nl.any (badN Y.g)=false:=by
    rw [List.any_eq_false]
    intro v hv
    obtain ⟨k,hk,rfl⟩:=List.getElem_of_mem hv
    rw [hl.len] at hk
    have h1:=hl.at' k hk
    rw [QZ 0 (by rw [hl.len]; exact hk)] at h1
    rw [h1]
    have h2:=(ZR (hl.mem k hk)).1
    have:inR ((B.idxOf (s k):Nat):Int) 0 (pred Y.g.n)=true:=(WF _ _ _).2 ⟨by omega,by rw [hp,yn]; omega⟩
    simp [badN,this]
  have h4:hasI (L Y.g.init) (nl.getD 0 0)=true:=by
    unfold hasI
    rw [List.any_eq_true,yi,hl.at' 0 (by omega)]
    exact ⟨_,List.mem_map.2 ⟨s 0,hl.ini,rfl⟩,decide_eq_true rfl⟩
  have h5:QM (stpK Y.g nl) 1 (p.length-1)=true:=by
    rw [allFrom_iff]
    intro j hj1 hj2
    obtain ⟨a,_,ha⟩:=lift_edge hx hl (show j-1+1<p.length by omega)
    rw [show j-1+1=j by omega] at ha
    unfold stpK
    rw [List.any_eq_true,ye]
    exact ⟨_,ha,by simp [VE]⟩
  rw [h3,if_neg (by decide),h4,h5]
  rfl
include ye in
theorem lift_skp {k:Nat} (hk:k<p.length):skp Y nl k=false:=by
  unfold skp
  by_cases h1:((k:Nat):Int)>0
  · obtain ⟨a,hne,ha⟩:=lift_edge hx hl (show k-1+1<p.length by omega)
    rw [show k-1+1=k by omega] at ha
    have:tkA Y.g (nl.getD (k-1) 0) (nl.getD k 0)=false:=by
      unfold tkA
      have:(L Y.g.edges).any (Je (nl.getD (k-1) 0) (nl.getD k 0))=true:=by
        rw [List.any_eq_true,ye]
        exact ⟨_,ha,by simp [Je,hne]⟩
      rw [this]; rfl
    rw [this,Bool.and_false,Bool.and_false]
  · rw [decide_eq_false h1,Bool.false_and]
include yb ye in
theorem lift_hid:∀ k,k≤p.length→hidU Y nl k=p.take k
  | 0,_=>rfl
  | k+1,hk=>by
    have ih:=lift_hid k (by omega)
    have hs:=lift_skp hx hl ye (show k<p.length by omega)
    have hb:bAt Y (nl.getD k 0)=p.getD k 0:=by
      obtain ⟨w1,w2⟩:=ZR (hl.mem k (by omega))
      unfold bAt
      rw [hl.at' k (by omega),yb,Int.toNat_natCast,QZ 0 (by simpa using w1),List.getElem_map,←ZA w1,w2]
      exact hl.fst k (by omega)
    unfold hidU
    rw [hs,if_neg (by decide),ih,hb,List.take_succ_eq_append_getElem (by omega),QZ 0 (by omega)]
end
theorem S23 {n:Int} {M:E→OE} {l B:List E} {E':List Edg} {s:Nat→E} {got want pth:OI} {X:Ax} (hx:ExtG n M l B E') (hl:LiftOk n M l B E' (L pth) s (L got)) (h0:(L pth).length≠0) (h60:(L pth).length≤60) (hBl:B.length≤400)
    (yb:L X.b=B.map Prod.fst) (yn:X.g.n=(B.length:Nat)) (yi:L X.g.init=nums B l) (ye:L X.g.edges=E') (hsm:XSm X) (hext:extE X=0) (hgw:L got=L want) (σ:Qa) :
    Qx CC 23 [.agg (eAx X),.p (eSl pth),.p (eSl got),.p (eSl want)] σ=some (.p (.bool true)):=by
  have g0:([Row.mix (eAx X)]:Qa)[0]?=some (.mix (eAx X)):=rfl
  have hgl:=hl.len
  have q1:¬ (((L got).length:Int)>60):=by omega
  have hpt:=lift_pth (Y:=ownX X) hx hl h0 h60 hBl yn yi ye
  have hhd:=lift_hid (Y:=ownX X) hx hl yb ye (L pth).length (Nat.le_refl _)
  rw [List.take_length] at hhd
  have h31:=S31 (o:=some (L got)) (σ:=[Row.mix (eAx X)]) (xsm_own hsm) (show (L got).length≤1000 by omega)
  have e1:extE (ownX X)=0:=hext
  have hLs:L (some (L got))=L got:=rfl
  unfold resH at h31
  rw [e1,if_pos rfl,hLs,hpt,if_pos rfl,hgl,hhd] at h31
  have h34:=S34 (a:=oI (L pth)) (b:=pth) (σ:=[Row.mix (eAx X)]) (L_oI _) (by rw [L_oI]; omega)
  have h34a:=S34 (a:=got) (b:=want) (σ:=[Row.mix (eAx X)]) hgw (by omega)
  have h16:=S16 (o:=got) (σ:=[Row.mix (eAx X)]) (by omega)
  have q0:decide ((0:Int)=0)=true:=rfl
  refine Qn (by simp [Vp,Zg]) rfl (F23_call (r:=(.p (.bool true),[.mix (eAx X)])) ?_) rfl
  rw [F23_eq]
  simp only [Uc,gG,List.length_nil,List.nil_append,Qe,Qf,Nat.zero_add,Nat.add_zero,Qc,List.append_nil,List.singleton_append,List.cons_append,List.nil_append,h34a,QP,Zi,gtF q1,VJ g0,S32 hsm,h16,h31,ex0,ex1,Zc,q0,h34]
theorem rowsErr_own:∀ l:List OI,Wp (l.map fun o=>some (L o))=Wp l
  | []=>rfl
  | a::l=>by
    have e:VF (some (L a))=VF a:=rfl
    simp only [List.map_cons,Wp,e,rowsErr_own l]
theorem errH_own (g:Gr) (h:Hs):errH (ownG g) (ownH h)=errH g h:=by
  unfold errH US
  have e1:errG (ownG g)=errG g:=rfl
  have e2:(L (ownH h).x).length=(L h.x).length:=VP h
  have e3:Wp (L (ownH h).x)=Wp (L h.x):=by rw [ownH_x,rowsErr_own]
  rw [e1,e2,e3]
  rfl
theorem vH_own (g:Gr) (h:Hs) (p:List Int):∀ k,vH (ownG g) (ownH h) p k=vH g h p k
  | 0=>rfl
  | k+1=>by
    unfold vH
    rw [vH_own g h p k,ownH_row]
    rfl
theorem nmH_own (B:List E) (g:Gr) (h:Hs) (p:List Int) (k:Nat):nmH B (ownG g) (ownH h) p k=nmH B g h p k:=by
  unfold nmH
  refine List.map_congr_left fun j _=>?_
  unfold sH
  rw [vH_own]
theorem ext_own {g:Gr} {h:Hs} {B:List E} {E':List Edg} (hx:ExtG (ownG g).n (fun x=>oE (mvH (ownG g) (ownH h) x)) (iniH (ownG g) (ownH h)) B E'):ExtG g.n (fun x=>oE (mvH g h x)) (iniH g h) B E':=by
  have e:(fun x=>oE (mvH (ownG g) (ownH h) x))=fun x=>oE (mvH g h x):=by funext x; rw [mvH_own]
  rw [e] at hx
  exact hx
theorem liftH {g:Gr} {h:Hs} {B:List E} {E':List Edg} {p:List Int} (hg:GOk g) (ht:(L g.edges).any tk=false) (hx:ExtG g.n (fun x=>oE (mvH g h x)) (iniH g h) B E') (hp:PthOk g p) :
    LiftOk g.n (fun x=>oE (mvH g h x)) (iniH g h) B E' p (sH g h p) (nmH B g h p p.length) where
  len:=nmH_len B g h p _
  at' k hk:=by rw [QZ 0 (by rw [nmH_len]; exact hk)]; simp [nmH]
  mem:=UE hx hp
  fst k hk:=rfl
  ini:=by
    unfold iniH
    rw [List.mem_map]
    exact ⟨p.getD 0 0,hp.ini,rfl⟩
  stp k hk:=by
    obtain ⟨h1,h2,h3,h4⟩:=sI_ok hp hk
    refine ⟨mvE g h (sH g h p k) (sI g p k),by rw [L_oE]; exact List.mem_map.2 ⟨sI g p k,Uh.2 ⟨h1,h3⟩,rfl⟩,?_,fun e=>?_⟩
    · unfold toE mvE sH
      simp only
      rw [h4]
      rfl
    · rw [List.any_eq_false] at ht
      have:=ht (gE (L g.edges) (sI g p k)) (by rw [Vh h1]; exact List.getElem_mem h1)
      unfold tk at this
      rw [decide_eq_true_iff] at this
      exact this e
end Go.D.StS
end
/- AuxiliaryHistories: what the law answers, if awake answers true. -/
section
set_option linter.unusedVariables false
set_option linter.unusedSimpArgs false
namespace Go.D.StS
open Go.D.Srt
theorem bld46i (x:Ax) (e:Int):build PP 46 [(0,.agg (eAx x)),(1,.p (.int .i64 e))]=some (.agg (eRs x e)):=bld46 x e
theorem h_stX {g:Gr} {h:Hs} (X:Ax):store PP 0 33 (.ptr 2 0) (.agg (eAx X)) [.mix (eGr g),.mix (eHs h),.mix Z5]=some [.mix (eGr g),.mix (eHs h),.mix (eAx X)]:=
  st33 (c:=eAx X) (σ:=[.mix (eGr g),.mix (eHs h),.mix Z5]) (t:=2) rfl rfl rfl rfl
theorem h_stY {g:Gr} {h:Hs} (X Y:Ax):store PP 0 33 (.ptr 3 0) (.agg (eAx Y)) [.mix (eGr g),.mix (eHs h),.mix (eAx X),.mix Z5]=some [.mix (eGr g),.mix (eHs h),.mix (eAx X),.mix (eAx Y)]:=
  st33 (c:=eAx Y) (σ:=[.mix (eGr g),.mix (eHs h),.mix (eAx X),.mix Z5]) (t:=3) rfl rfl rfl rfl
section
variable (hawake:∀ σ,Qx CC 9 [] σ=some (.p (.bool true))) {g:Gr} {h:Hs} {o:OI}
variable (hf:fewB g=true) (q1:(L h.s).length≤40) (hb:briB (L h.x)=true) (hol:(L o).length≤62)
include hawake hf q1 hb hol
theorem law3_in:∃ σ',F3 Qb 0 (.agg (eGr g)) (.agg (eHs h)) (.p (eSl o)) []=some (.p (.bool true),σ'):=by
  have g0:([Row.mix (eGr g),.mix (eHs h)]:Qa)[0]?=some (.mix (eGr g)):=rfl
  have g1:([Row.mix (eGr g),.mix (eHs h)]:Qa)[1]?=some (.mix (eHs h)):=rfl
  have h10:=S10 (g:=g) (σ:=[Row.mix (eGr g),.mix (eHs h)])
  have h11:=S11 (o:=h.x) (σ:=[Row.mix (eGr g),.mix (eHs h)])
  rw [hf] at h10
  rw [hb] at h11
  have a9:=hawake [Row.mix (eGr g),.mix (eHs h)]
  have p1:¬ (((L h.s).length:Int)>40):=by omega
  have p2:¬ (((L o).length:Int)>62):=by omega
  have hf2:=hf
  unfold fewB at hf2
  simp only [Bool.and_eq_true,Bool.or_eq_true,decide_eq_true_iff] at hf2
  have hb2:=hb
  unfold briB at hb2
  rw [Bool.and_eq_true,decide_eq_true_iff,List.all_eq_true] at hb2
  have hrow:∀ j,j<(L h.x).length→(L ((L h.x).getD j none)).length≤1000:=fun j hj=>by
    have:=hb2.2 _ (List.getElem_mem hj)
    rw [decide_eq_true_iff,←QZ none hj] at this
    omega
  have hrowO:∀ j,j<(L (ownH h).x).length→(L ((L (ownH h).x).getD j none)).length≤1000:=fun j hj=>by
    rw [ownH_row]; rw [VP] at hj; exact hrow j hj
  have hi:(L g.init).length≤1000:=by omega
  have he:(L g.edges).length≤10000:=by omega
  have hz:Qz PP 33=some Z5:=Um
  have hld0:load PP 25 (.ptr 0 0) [Row.mix (eGr g),.mix (eHs h)]=some (.agg (eGr g)):=Ws rfl
  have hld1:load PP 28 (.ptr 1 0) [Row.mix (eGr g),.mix (eHs h)]=some (.agg (eHs h)):=UL rfl
  have h13:=fun σ=>S13 (g:=g) (σ:=σ) hi he
  have h14:=fun σ=>S14 (h:=h) (σ:=σ) (by omega) (by omega) hrow
  have h16:=fun σ=>S16 (o:=o) (σ:=σ) (by omega)
  have h17:=fun σ=>S17 (g:=g) hi he σ
  have h18:=fun σ=>S18 (g:=g) hrow (by omega) (by omega) σ
  simp only [pI] at h17 h18
  have e00:decide ((0:Int)=0)=true:=rfl
  have hLo:L (some (L o))=L o:=rfl
  by_cases hc:errH g h=0
  ·
    have hc2:=hc
    unfold errH at hc2
    have q2:errG g=0:=by
      by_cases q:errG g=0
      · exact q
      · rw [if_neg q] at hc2; exact absurd hc2 q
    have q3:US g h=0:=by rw [if_pos q2] at hc2; exact hc2
    obtain ⟨hg,n30,e120,htk⟩:=errG_zero q2
    have hh:=errHR_zero q3
    obtain ⟨n8,e16⟩:=fewB_small hf n30 e120
    obtain ⟨B,E',hx0,h12⟩:=S12 hg.own hh.own n8 e16 (by rw [errH_own]; exact hc) [Row.mix (eGr g),.mix (eHs h)]
    have hia:=ini_asc (h:=ownH h) hg.own
    have hM:∀ x∈B,(L (oE (mvH (ownG g) (ownH h) x))).length≤16:=fun x _=>by rw [L_oE]; exact Nat.le_trans (mvH_len _ _ _) e16
    have ha:∀ x∈B,∀ e∈L (oE (mvH (ownG g) (ownH h) x)),0≤e.a∧e.a≤11:=fun x _ e he=>by rw [L_oE] at he; exact mvH_act hg.own he
    have hext:=hx0.ext0 n8 hia hM ha
    obtain ⟨k1,k2,k3⟩:=hx0.ok n8 hia hM ha
    have hx:=ext_own hx0
    have hin:iniH (ownG g) (ownH h)=iniH g h:=rfl
    rw [hin] at h12 hext
    have hnl:(nums B (iniH g h)).length=(L g.init).length:=by simp [nums,iniH]
    obtain ⟨S,hS,hs,h20⟩:=S20 hg hh n30 e120
    have hia2:=ini_asc (h:=h) hg
    have ha2:∀ x∈B,∀ e∈L (oE (mvH g h x)),0≤e.a∧e.a≤11:=fun x _ e he=>by rw [L_oE] at he; exact mvH_act hg he
    have hre:=ref_eq n30 hx (refOkH hg) hs hia2 ha2
    rw [hre] at h20
    obtain ⟨x1,x2,x3,x4,x5⟩:=ax_out B (nums B (iniH g h)) E'
    generalize hX:mkX B (nums B (iniH g h)) E'=X at *
    have hil:=Vx hg
    have hsm:XSm X:=⟨by rw [x4,hnl]; omega,by rw [x3]; omega,by rw [x1,List.length_map]; omega,by rw [x2,List.length_map]; omega⟩
    have h19:=S19a (x:=X) (y:=X) ⟨rfl,rfl,rfl,rfl,rfl⟩ hsm (by rw [x5]; omega) (by rw [x3]; omega) [.mix (eGr g),.mix (eHs h),.mix (eAx X),.mix (eAx X)]
    have h21:=S21 (x:=X) (by rw [x5]; omega) (by rw [x3]; omega) [.mix (eGr g),.mix (eHs h),.mix (eAx X),.mix (eAx X)]
    obtain ⟨B2,E2,hy0,h15⟩:=S15 (o:=some (L o)) hg.own hh.own n8 e16 (by rw [errH_own]; exact hc) (by rw [hLo]; omega) [.mix (eGr g),.mix (eHs h),.mix (eAx X)]
    obtain ⟨rfl,rfl⟩:=ext_uniq hx (ext_own hy0)
    rw [hLo,nmH_own] at h15
    have hpo:pthE (ownG g) (L o)=pthE g (L o):=rfl
    rw [hpo] at h15
    have h22:=S22 (g:=g) (o:=o) (σ:=[.mix (eGr g),.mix (eHs h),.mix (eAx X),.mix (eAx X)]) (by omega) hi he
    simp only [pI] at h22
    have hla:load PP 25 (.ptr 0 0) [Row.mix (eGr g),.mix (eHs h),.mix (eAx X)]=some (.agg (eGr g)):=Ws rfl
    have hlb:load PP 28 (.ptr 1 0) [Row.mix (eGr g),.mix (eHs h),.mix (eAx X)]=some (.agg (eHs h)):=UL rfl
    have hlc:load PP 25 (.ptr 0 0) [Row.mix (eGr g),.mix (eHs h),.mix (eAx X),.mix (eAx X)]=some (.agg (eGr g)):=Ws rfl
    have hld:load PP 28 (.ptr 1 0) [Row.mix (eGr g),.mix (eHs h),.mix (eAx X),.mix (eAx X)]=some (.agg (eHs h)):=UL rfl
    have hle:load PP 33 (.ptr 2 0) [Row.mix (eGr g),.mix (eHs h),.mix (eAx X),.mix (eAx X)]=some (.agg (eAx X)):=VJ rfl
    have hlf:load PP 33 (.ptr 3 0) [Row.mix (eGr g),.mix (eHs h),.mix (eAx X),.mix (eAx X)]=some (.agg (eAx X)):=VJ rfl
    by_cases hp0:pthE g (L o)=0
    · rw [if_pos hp0] at h15
      have hp:=pth_ok hg hp0
      have h24:=S24 (o:=o) hh e16 hx hp x1 x2 (by omega) h20 [.mix (eGr g),.mix (eHs h),.mix (eAx X),.mix (eAx X)]
      have h23:=S23 (X:=X) (got:=some (nmH B g h (L o) (L o).length)) (want:=some (nmH B g h (L o) (L o).length)) (pth:=o) hx (liftH hg htk hx hp) hp.ne hp.le (by omega) x1 x5 x4 x3 hsm hext rfl [.mix (eGr g),.mix (eHs h),.mix (eAx X),.mix (eAx X)]
      refine ⟨[.mix (eGr g),.mix (eHs h),.mix (eAx X),.mix (eAx X)],?_⟩
      rw [F3_eq]
      simp (maxSteps:=4000000) only [Zo,Wx,gG,List.length_nil,List.nil_append,List.length_cons,List.cons_append,Nat.reduceAdd,Qe,Qf,Nat.zero_add,Nat.add_zero,Qc,List.append_nil,List.singleton_append,List.cons_append,List.nil_append,a9,hld0,hld1,h10,Wt,Wk,QH,Wi,Qd (off:=0) g1 (v:=.p (eSl h.s)) rfl,Qd (off:=1) g1 (v:=.p (eLs h.x)) rfl,QP,Zi,gtF p1,gtF p2,h11,h13,h14,h12,ex0,ex1,hz,h_stX,hla,hlb,h16,h15,h17,Zc,eqT q2,h18]
      rw [f3_J0_eq]
      simp (maxSteps:=4000000) only [gG,List.length_nil,List.nil_append,List.length_cons,List.cons_append,Nat.reduceAdd,Qe,Qf,Nat.zero_add,Nat.add_zero,Qc,List.append_nil,List.singleton_append,List.cons_append,List.nil_append,ZO,eqT q3,hla,hlb,h20,hz,h_stY,hlc,hld,hle,hlf,bld46i,h19,h21,h22,eqT hp0,Zc,e00,h24,h23]
    · rw [if_neg hp0] at h15
      refine ⟨[.mix (eGr g),.mix (eHs h),.mix (eAx X),.mix (eAx X)],?_⟩
      have ep:decide (pthE g (L o)=pthE g (L o))=true:=decide_eq_true rfl
      rw [F3_eq]
      simp (maxSteps:=4000000) only [Zo,Wx,gG,List.length_nil,List.nil_append,List.length_cons,List.cons_append,Nat.reduceAdd,Qe,Qf,Nat.zero_add,Nat.add_zero,Qc,List.append_nil,List.singleton_append,List.cons_append,List.nil_append,a9,hld0,hld1,h10,Wt,Wk,QH,Wi,Qd (off:=0) g1 (v:=.p (eSl h.s)) rfl,Qd (off:=1) g1 (v:=.p (eLs h.x)) rfl,QP,Zi,gtF p1,gtF p2,h11,h13,h14,h12,ex0,ex1,hz,h_stX,hla,hlb,h16,h15,h17,Zc,eqT q2,h18]
      rw [f3_J0_eq]
      simp (maxSteps:=4000000) only [gG,List.length_nil,List.nil_append,List.length_cons,List.cons_append,Nat.reduceAdd,Qe,Qf,Nat.zero_add,Nat.add_zero,Qc,List.append_nil,List.singleton_append,List.cons_append,List.nil_append,ZO,eqT q3,hla,hlb,h20,hz,h_stY,hlc,hld,hle,hlf,bld46i,h19,h21,h22,eqF hp0,Zc,ep,len22_nil,e00]
  ·
    have hco:errH (ownG g) (ownH h)≠0:=by rw [errH_own]; exact hc
    have h12:=S12e (g:=ownG g) (h:=ownH h) hi he hrowO (by rw [VP]; omega) (show (L h.s).length≤1000 by omega) hco [Row.mix (eGr g),.mix (eHs h)]
    have h15:=S15e (g:=ownG g) (h:=ownH h) (o:=some (L o)) hi he hrowO (by rw [VP]; omega) (show (L h.s).length≤1000 by omega) hco [.mix (eGr g),.mix (eHs h),.mix (eAx zAx)]
    rw [errH_own] at h12 h15
    have hla:load PP 25 (.ptr 0 0) [Row.mix (eGr g),.mix (eHs h),.mix (eAx zAx)]=some (.agg (eGr g)):=Ws rfl
    have hlb:load PP 28 (.ptr 1 0) [Row.mix (eGr g),.mix (eHs h),.mix (eAx zAx)]=some (.agg (eHs h)):=UL rfl
    have hlc:load PP 33 (.ptr 2 0) [Row.mix (eGr g),.mix (eHs h),.mix (eAx zAx)]=some (.agg (eAx zAx)):=VJ rfl
    have h19:=S19b hc [.mix (eGr g),.mix (eHs h),.mix (eAx zAx)]
    have ec:decide (errH g h=errH g h)=true:=decide_eq_true rfl
    refine ⟨[.mix (eGr g),.mix (eHs h),.mix (eAx zAx)],?_⟩
    rw [F3_eq]
    by_cases q2:errG g=0
    · have e1:US g h=errH g h:=by unfold errH; rw [if_pos q2]
      rw [e1] at h18
      simp (maxSteps:=4000000) only [Zo,Wx,gG,List.length_nil,List.nil_append,List.length_cons,List.cons_append,Nat.reduceAdd,Qe,Qf,Nat.zero_add,Nat.add_zero,Qc,List.append_nil,List.singleton_append,List.cons_append,List.nil_append,a9,hld0,hld1,h10,Wt,Wk,QH,Wi,Qd (off:=0) g1 (v:=.p (eSl h.s)) rfl,Qd (off:=1) g1 (v:=.p (eLs h.x)) rfl,QP,Zi,gtF p1,gtF p2,h11,h13,h14,h12,ex0,ex1,hz,h_stX,hla,hlb,h16,h15,h17,Zc,eqT q2,h18]
      rw [f3_J0_eq]
      simp (maxSteps:=4000000) only [gG,List.length_nil,List.nil_append,List.length_cons,List.cons_append,Nat.reduceAdd,Qe,Qf,Nat.zero_add,Nat.add_zero,Qc,List.append_nil,List.singleton_append,List.cons_append,List.nil_append,ZO,eqF hc,hlc,bld46i,bld33_0,h19,Zc,ec,len22_nil,e00]
    · have e1:errG g=errH g h:=by unfold errH; rw [if_neg q2]
      rw [e1] at h17
      simp (maxSteps:=4000000) only [Zo,Wx,gG,List.length_nil,List.nil_append,List.length_cons,List.cons_append,Nat.reduceAdd,Qe,Qf,Nat.zero_add,Nat.add_zero,Qc,List.append_nil,List.singleton_append,List.cons_append,List.nil_append,a9,hld0,hld1,h10,Wt,Wk,QH,Wi,Qd (off:=0) g1 (v:=.p (eSl h.s)) rfl,Qd (off:=1) g1 (v:=.p (eLs h.x)) rfl,QP,Zi,gtF p1,gtF p2,h11,h13,h14,h12,ex0,ex1,hz,h_stX,hla,hlb,h16,h15,h17,Zc,eqF hc,h18]
      rw [f3_J0_eq]
      simp (maxSteps:=4000000) only [gG,List.length_nil,List.nil_append,List.length_cons,List.cons_append,Nat.reduceAdd,Qe,Qf,Nat.zero_add,Nat.add_zero,Qc,List.append_nil,List.singleton_append,List.cons_append,List.nil_append,ZO,eqF hc,hlc,bld46i,bld33_0,h19,Zc,ec,len22_nil,e00]
end
theorem law3 (hawake:∀ σ,Qx CC 9 [] σ=some (.p (.bool true))) (g:Gr) (h:Hs) (o:OI):∃ σ',F3 Qb 0 (.agg (eGr g)) (.agg (eHs h)) (.p (eSl o)) []=some (.p (.bool true),σ'):=by
  have g1:([Row.mix (eGr g),.mix (eHs h)]:Qa)[1]?=some (.mix (eHs h)):=rfl
  have h10:=S10 (g:=g) (σ:=[Row.mix (eGr g),.mix (eHs h)])
  have h11:=S11 (o:=h.x) (σ:=[Row.mix (eGr g),.mix (eHs h)])
  have a9:=hawake [Row.mix (eGr g),.mix (eHs h)]
  have hld0:load PP 25 (.ptr 0 0) [Row.mix (eGr g),.mix (eHs h)]=some (.agg (eGr g)):=Ws rfl
  cases hf:fewB g with
  | false=>
    rw [hf] at h10
    rw [F3_eq]
    simp (maxSteps:=4000000) only [Zo,Wx,gG,List.length_nil,List.nil_append,List.length_cons,List.cons_append,Nat.reduceAdd,Qe,Qf,Nat.zero_add,Nat.add_zero,Qc,List.append_nil,List.singleton_append,List.cons_append,List.nil_append,a9,hld0,h10]
    exact ⟨_,rfl⟩
  | true=>
    rw [hf] at h10
    by_cases q1:(L h.s).length≤40
    · have p1:¬ (((L h.s).length:Int)>40):=by omega
      cases hb:briB (L h.x) with
      | false=>
        rw [hb] at h11
        rw [F3_eq]
        simp (maxSteps:=4000000) only [Zo,Wx,gG,List.length_nil,List.nil_append,List.length_cons,List.cons_append,Nat.reduceAdd,Qe,Qf,Nat.zero_add,Nat.add_zero,Qc,List.append_nil,List.singleton_append,List.cons_append,List.nil_append,a9,hld0,h10,Wt,Wk,QH,Wi,Qd (off:=0) g1 (v:=.p (eSl h.s)) rfl,Qd (off:=1) g1 (v:=.p (eLs h.x)) rfl,QP,Zi,gtF p1,h11]
        exact ⟨_,rfl⟩
      | true=>
        rw [hb] at h11
        by_cases q2:(L o).length≤62
        · exact law3_in hawake hf q1 hb q2
        · have p2:(((L o).length:Int)>62):=by omega
          rw [F3_eq]
          simp (maxSteps:=4000000) only [Zo,Wx,gG,List.length_nil,List.nil_append,List.length_cons,List.cons_append,Nat.reduceAdd,Qe,Qf,Nat.zero_add,Nat.add_zero,Qc,List.append_nil,List.singleton_append,List.cons_append,List.nil_append,a9,hld0,h10,Wt,Wk,QH,Wi,Qd (off:=0) g1 (v:=.p (eSl h.s)) rfl,Qd (off:=1) g1 (v:=.p (eLs h.x)) rfl,QP,Zi,gtF p1,h11,gtT p2]
          exact ⟨_,rfl⟩
    · have p1:(((L h.s).length:Int)>40):=by omega
      rw [F3_eq]
      simp (maxSteps:=4000000) only [Zo,Wx,gG,List.length_nil,List.nil_append,List.length_cons,List.cons_append,Nat.reduceAdd,Qe,Qf,Nat.zero_add,Nat.add_zero,Qc,List.append_nil,List.singleton_append,List.cons_append,List.nil_append,a9,hld0,h10,Wt,QH,Qd (off:=0) g1 (v:=.p (eSl h.s)) rfl,QP,Zi,gtT p1]
      exact ⟨_,rfl⟩
theorem call3 (hawake:∀ σ,Qx CC 9 [] σ=some (.p (.bool true))) (g:Gr) (h:Hs) (o:OI):∃ σ',CC 0 3 [.agg (eGr g),.agg (eHs h),.p (eSl o)] []=some (.p (.bool true),σ'):=by
  obtain ⟨σ',h⟩:=law3 hawake g h o
  exact ⟨σ',F3_call h⟩
end Go.D.StS
end
/- AuxiliaryHistories: for every graph, every history variable and every path the law answers true and leaves its arguments as they were: the given statement, without conditions. -/
section
set_option linter.unusedVariables false
set_option linter.unusedSimpArgs false
set_option maxRecDepth 100000
namespace Go.D
open Go.ChangeShapes Go.WideShapes Go.ChangeAt Go.RowKit
theorem auxiliaryHistories_calls (hawake:Awake) {H:Type} {enc:TypeId×Value→H} {W:World} {base:Nat} {args:Array Value} {ds:List (DataW H)} {ps:List MemPlace}
    (hval:∀ (j:Nat) t v,([25,28,22]:List TypeId).toArray[j]?=some t→args[j]?=some v→Value.okWide PP W .any base t v)
    (hA:DataW.TrodAll enc PP W 0 (fun _=>true) true [25,28,22] args.toList ds ps) :
    Calls PP 3 args W fun e W'=>e=.returned (.bool true)∧Below W.heap.size W W':=by
  obtain ⟨v0,v1,v2,d0,d1,d2,p0,p1,p2,rfl,rfl,rfl,h0,h1,h2⟩:=trodAll_three hA
  obtain ⟨o0,ho0⟩:=read_gr (hval 0 25 v0 rfl rfl) h0
  obtain ⟨o1,ho1⟩:=read_hs (hval 1 28 v1 rfl rfl) h1
  obtain ⟨o2,ho2⟩:=read_sl (hval 2 22 v2 rfl rfl) h2
  obtain ⟨σ',hc⟩:=StS.call3 hawake o0 o1 o2
  refine calls_of hc ⟨rfl,fun j h1 h2=>?_⟩
  match j,h1 with
  | 0,_=>exact ho0
  | 1,_=>exact ho1
  | 2,_=>exact ho2
end Go.D
namespace Go.Proofs.YtkpdgafinpedgaaGreat
open Go.D Go.ChangeShapes Go.WideShapes Go.ChangeAt Go.RowKit
set_option maxRecDepth 100000 in
theorem auxiliaryHistories_lifted (hawake:Awake) (os:Os) (started:os.Started) (H:Type) (enc:TypeId×Value→H) :
    ReturnsInHanded {} Tryz.checked os 3 .any (Rows.auxiliaryHistoriesSpec.pre6 enc Tryz.prog Tryz.f3 Rows.auxiliaryHistoriesRow.domain false) (Rows.auxiliaryHistoriesSpec.post enc Tryz.prog Tryz.f3 false true false false):=by
  refine returnsInHanded_of_change_sized (C:=Tryz.checked) own_ok started (by kernel_rfl) Tryz.func3
    (ChangeSpec.witness6 (enc:=enc) (C:=Tryz.checked) false ⟨#[],#[.agg #[.int .i64 0,.slice none 0 0,.slice none 0 0],.agg #[.slice none 0 0,.slice none 0 0],.slice none 0 0],[]⟩ 8 (by kernel_rfl) (by kernel_rfl) (by kernel_rfl) (by kernel_rfl)) ?_
  intro W base args ds gs before hval0 hW _ hsz0 _
  have hval:∀ (j:Nat) t v,Tryz.f3.params[j]?=some t→args[j]?=some v→Value.okWide Tryz.prog W .any base t v:=hval0
  have hW':=hW
  obtain ⟨p,q,hA0,hV,rfl,_,_⟩:=hW
  have hA:DataW.TrodAll enc Tryz.prog W 0 (fun _=>true) true Tryz.f3.params.toList args.toList ds p:=hA0
  rw [Tryz.params3] at hA hval
  have hA2:=hA
  obtain ⟨v0,v1,v2,d0,d1,d2,p0,p1,p2,rfl,rfl,rfl,h0,h1,h2⟩:=trodAll_three hA
  obtain ⟨rfl,rfl⟩:=trodVars_none hV
  have hlt:∀ x∈p0++p1++p2,x.block<W.heap.size:=fun x hx=>by
    have:=hW'.lt x (by simpa using hx)
    exact this
  have e0:∀ x∈p0,x.block<W.heap.size:=fun x hx=>hlt x (List.mem_append_left _ (List.mem_append_left _ hx))
  have e1:∀ x∈p1,x.block<W.heap.size:=fun x hx=>hlt x (List.mem_append_left _ (List.mem_append_right _ hx))
  have e2:∀ x∈p2,x.block<W.heap.size:=fun x hx=>hlt x (List.mem_append_right _ hx)
  refine (auxiliaryHistories_calls hawake (base:=base) hval hA2).mono ?_
  rintro e W2 ⟨rfl,hnx⟩
  refine ⟨_,rfl,_,_,_,[],p0++(p1++p2),[],hW',?_,?_,rfl,hnx.frame _,fun h=>by cases h⟩
  · exact trodAll_mk1 (shut_bool ul4 true)
  · exact trodAll_mk3 (Below.trod laidOut_ok (by kernel_rfl) (of_decide_eq_true (by kernel_rfl)) h0 hnx e0) (Below.trod laidOut_ok (by kernel_rfl) (of_decide_eq_true (by kernel_rfl)) h1 hnx e1) (Below.trod laidOut_ok (by kernel_rfl) (of_decide_eq_true (by kernel_rfl)) h2 hnx e2)
theorem auxiliaryHistories_holds:Rows.AuxiliaryHistoriesSaid:=
  OpenClaim.holds_of_wide 3 Tryz.f3 rfl rfl rfl rfl rfl rfl rfl ⟨rfl,rfl,rfl,rfl,rfl⟩ rfl rfl rfl rfl rfl (by kernel_rfl) Tryz.func3 (by kernel_rfl)
    (of_decide_eq_true (by kernel_rfl)) (by unfold Func.isWrapper; first | (rw [if_pos (by decide +kernel)]; kernel_rfl) | (rw [if_neg (by decide +kernel)]; exact ⟨rfl,rfl⟩))
    (fun os started H enc _=>auxiliaryHistories_lifted awake_true os started H enc)
end Go.Proofs.YtkpdgafinpedgaaGreat
end
