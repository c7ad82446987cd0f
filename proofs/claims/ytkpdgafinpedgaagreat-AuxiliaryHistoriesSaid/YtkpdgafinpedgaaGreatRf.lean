/- pdqsort over elements of type 69: it sorts. -/
import Derived.Test.YtkpdgafinpedgaaGreatRe
import Derived.Test.YtkpdgafinpedgaaGreatRc
import Derived.Test.YtkpdgafinpedgaaGreatRb
section
set_option linter.unusedVariables false
set_option linter.unusedSimpArgs false
namespace Go.D.StT
open Go.D.Srt
abbrev I (x:Int):DV:=.p (.int .i64 x)
abbrev Bo (b:Bool):DV:=.p (.bool b)
def Goal (cmp:E→E→Int) (r a b:Nat) (A:List E) (σ:Qa) (res:Option (DV×Qa)):Prop:=
  ∃ B σ',res=some (.tuple [],W σ' r B)∧RP a b A B∧Sd (ltc cmp) a b B∧∃ e,σ'=σ++e
def Low (cmp:E→E→Int) (a b:Nat) (A:List E):Prop:=0<a→∀ p,a≤p→p<b→ltc cmp (ge A p) (ge A (a-1))=false
theorem Goal.mono {cmp:E→E→Int} {r a b:Nat} {A A0:List E} {σ σ0:Qa} {res:Option (DV×Qa)} (h:Goal cmp r a b A0 σ0 res) (h1:RP a b A A0) (h2:∃ e,σ0=σ++e):Goal cmp r a b A σ res:=by
  obtain ⟨B,σ',e1,e2,e3,x,e4⟩:=h
  obtain ⟨y,rfl⟩:=h2
  exact ⟨B,σ',e1,h1.trans e2,e3,y++x,by rw [e4,List.append_assoc]⟩
theorem Low.perm {cmp:E→E→Int} {a b:Nat} {A B:List E} (h:Low cmp a b A) (h1:RP a b A B):Low cmp a b B:=by
  intro h0 p g1 g2
  rw [h1.out (a-1) (by omega)]
  exact h1.all (fun x=>ltc cmp x (ge A (a-1))=false) (h h0) p g1 g2
section
variable {cf : FuncId} {cmp : E → E → Int} (hc : ∀ (x y : E) (σ : Qa), Qx CC cf [val x, val y] σ = some (.p (.int .i64 (cmp x y)))) (H : Ord (ltc cmp))
variable {r n lo : Nat}
def IH (cf:FuncId) (cmp:E→E→Int) (r n lo m:Nat):Prop:=∀ (a b:Nat) (A:List E) (lim:Int) (wb wp:Bool) (σ:Qa),b-a<m→a≤b→b≤n→A.length=n→Low cmp a b A→r<σ.length→
  Goal cmp r a b A σ (f145_L0 Qb lo (V r n) (N a) (N b) (I lim) (.fn cf []) (Bo wb) (Bo wp) (W σ r A))
theorem subI (t:TypeId) (a b:Int):binOp PP .sub t (.p (.int .i64 a)) (.p (.int .i64 b))=some (.p (.int .i64 (IntKind.wrap .i64 (a-b)))):=Eq.trans rfl rfl
theorem quo8 {l:Nat} (h:l≤1000000):binOp PP .quo 3 (.p (.int .i64 (l:Nat))) (.p (.int .i64 8))=some (.p (.int .i64 ((l / 8:Nat):Int))):=by
  have e3:((l:Nat):Int).tdiv 8=((l / 8:Nat):Int):=by rw [Int.tdiv_eq_ediv_of_nonneg (by omega)]; omega
  have e4:binOp PP .quo 3 (.p (.int .i64 ((l:Nat):Int))) (.p (.int .i64 8))=some (.p (.int .i64 (IntKind.wrap .i64 (((l:Nat):Int).tdiv 8)))):=Eq.trans rfl rfl
  rw [e4,e3,QL (by omega) (by omega)]
include hc H in
theorem pq_part (hlo:lo≤r) (hn:n≤100000) {a b p:Nat} (ih:IH cf cmp r n lo (b-a)) (hab:a+12<b) (hb:b≤n) (hp1:a≤p) (hp2:p<b) {A:List E} (hA:A.length=n) (hL:Low cmp a b A) (lim:Int) (y:DV) {σ:Qa} (hr:r<σ.length) :
    Goal cmp r a b A σ ((Qg CC lo (DV.fn 161 []) [V r n,N a,N b,N p,.fn cf []] (W σ r A)).bind fun r111_24=>
     (Ql r111_24.1 0).bind fun x112=>
     (Ql r111_24.1 1).bind fun x113=>
     (binOp PP .sub 3 x112 (N a)).bind fun x117=>
     (binOp PP .sub 3 (N b) x112).bind fun x120=>
     (binOp PP .quo 3 (N (b-a)) (DV.p (PV.int IntKind.i64 (8)))).bind fun x122=>
     (binOp PP .lss 3 x117 x120).bind fun x125=>
     Qj x125
     (
     (binOp PP .geq 3 x117 x122).bind fun x128=>
     (Qg CC lo (DV.fn 145 []) [V r n,N a,x112,I lim,.fn cf []] r111_24.2).bind fun r134_25=>
     (binOp PP .add 3 x112 (DV.p (PV.int IntKind.i64 (1)))).bind fun x136=>
     f145_L0 Qb lo (V r n) x136 (N b) (I lim) (.fn cf []) x128 x113 r134_25.2
     )
     (
     (binOp PP .geq 3 x120 x122).bind fun x139=>
     (binOp PP .add 3 x112 (DV.p (PV.int IntKind.i64 (1)))).bind fun x142=>
     (Qg CC lo (DV.fn 145 []) [V r n,x142,N b,I lim,.fn cf []] r111_24.2).bind fun r146_26=>
     f145_L0 Qb lo (V r n) (N a) x112 (I lim) (.fn cf []) x139 x113 r146_26.2
     )):=by
  obtain ⟨f,e1⟩:=pa_ok hc hr hlo hn (show a<b by omega) hb (show p<n by omega) A hA
  have r1:RP a b A (swp A a p):=RP.swap ⟨by omega,by omega⟩ ⟨hp1,hp2⟩ (by omega)
  have hm:=prt_mid H (a:=a) (b:=b) (A:=swp A a p) (by omega) (by rw [QA]; omega)
  have hm:a≤(prt (uA cmp) (vA cmp) a (b-a+1) (a+1) (b-1) (swp A a p)).2.1∧(prt (uA cmp) (vA cmp) a (b-a+1) (a+1) (b-1) (swp A a p)).2.1<b∧RP a b (swp A a p) (swp (prt (uA cmp) (vA cmp) a (b-a+1) (a+1) (b-1) (swp A a p)).2.2 (prt (uA cmp) (vA cmp) a (b-a+1) (a+1) (b-1) (swp A a p)).2.1 a)∧Mid (ltc cmp) a b (prt (uA cmp) (vA cmp) a (b-a+1) (a+1) (b-1) (swp A a p)).2.1 (swp (prt (uA cmp) (vA cmp) a (b-a+1) (a+1) (b-1) (swp A a p)).2.2 (prt (uA cmp) (vA cmp) a (b-a+1) (a+1) (b-1) (swp A a p)).2.1 a):=hm
  generalize (swp (prt (uA cmp) (vA cmp) a (b-a+1) (a+1) (b-1) (swp A a p)).2.2 (prt (uA cmp) (vA cmp) a (b-a+1) (a+1) (b-1) (swp A a p)).2.1 a)=A1 at *
  generalize (prt (uA cmp) (vA cmp) a (b-a+1) (a+1) (b-1) (swp A a p)).2.1=m at *
  obtain ⟨m1,m2,m3,m4⟩:=hm
  have rA:RP a b A A1:=r1.trans m3
  have hL1:=hL.perm rA
  have hA1:A1.length=n:=rA.len.trans hA
  simp only [Qs,List.append_nil,e1,gG,Jo,Jn]
  by_cases hlt:m-a<b-m
  ·
    have hLl:Low cmp a m A1:=fun h0 p g1 g2=>hL1 h0 p g1 (by omega)
    obtain ⟨B,σ1,g1,g2,g3,x,rfl⟩:=ih a m A1 lim true true σ (by omega) m1 (by omega) hA1 hLl hr
    have c1:CC lo 145 [V r n,N a,N m,I lim,.fn cf []] (W σ r A1)=some (.tuple [],W (σ++x) r B):=F145_call (by rw [F145_eq]; exact g1)
    have hLr:Low cmp (m+1) b B:=fun h0 p k1 k2=>by
      rw [g2.out p (by omega),g2.out (m+1-1) (by omega)]
      exact m4.2 p (by omega) k2
    obtain ⟨C,σ2,q1,q2,q3,z,rfl⟩:=ih (m+1) b B lim (decide (((m-a:Nat):Int)≥(((b-a) / 8:Nat):Int))) f (σ++x) (by omega) (by omega) hb (g2.len.trans hA1) hLr (by rw [List.length_append]; omega)
    have gl:=glue H (a:=a) (b:=b) (m:=m) ⟨m1,m2⟩ m4 g2 g3 q2 q3
    refine ⟨C,_,?_,rA.trans gl.1,gl.2,x++z,List.append_assoc _ _ _⟩
    simp only [V,N,I] at c1
    simp (disch:=omega) only [V,N,I,subN,quo8,Qp,ltT,gG,Zm]
    rw [c1]
    simp (disch:=omega) only [gG,add1]
    exact q1
  · have hLr:Low cmp (m+1) b A1:=fun h0 p k1 k2=>m4.2 p (by omega) k2
    obtain ⟨B,σ1,g1,g2,g3,x,rfl⟩:=ih (m+1) b A1 lim true true σ (by omega) (by omega) hb hA1 hLr hr
    have c1:CC lo 145 [V r n,N (m+1),N b,I lim,.fn cf []] (W σ r A1)=some (.tuple [],W (σ++x) r B):=F145_call (by rw [F145_eq]; exact g1)
    have hLl:Low cmp a m B:=fun h0 p k1 k2=>by
      rw [g2.out p (by omega),g2.out (a-1) (by omega)]
      exact hL1 h0 p k1 (by omega)
    obtain ⟨C,σ2,q1,q2,q3,z,rfl⟩:=ih a m B lim (decide (((b-m:Nat):Int)≥(((b-a) / 8:Nat):Int))) f (σ++x) (by omega) m1 (by omega) (g2.len.trans hA1) hLl (by rw [List.length_append]; omega)
    have gl:=glue' H (a:=a) (b:=b) (m:=m) ⟨m1,m2⟩ m4 g2 g3 q2 q3
    refine ⟨C,_,?_,rA.trans gl.1,gl.2,x++z,List.append_assoc _ _ _⟩
    simp only [V,N,I] at c1
    simp (disch:=omega) only [V,N,I,subN,quo8,Qp,ltF,gG,Zm,add1]
    rw [c1]
    simp (disch:=omega) only [gG]
    exact q1
include hc H in
theorem UV (hlo:lo≤r) (hn:n≤100000) {a b p:Nat} (ih:IH cf cmp r n lo (b-a)) (hab:a+12<b) (hb:b≤n) (hp1:a≤p) (hp2:p<b) {A:List E} (hA:A.length=n) (hL:Low cmp a b A) (lim:Int) (wb wp:Bool) {σ:Qa} (hr:r<σ.length) (x14 x21 x22 x23 x24 x25 x31 x32 x38 x39 x40 x41 x42 x43 x44 x45 x46 x47 x48 x49 x50 x51 x52 x53 x54 x55 x56 x57 x58 x59 x60 x61 x62 x63 x64 x65 x66 x67 x68 x69 x70 x71 x72 x73 x74 x75 x76 x77 x78 x79 x80:DV) :
    Goal cmp r a b A σ (f145_J2 Qb lo (V r n) (N a) (N b) (I lim) (.fn cf []) (Bo wb) (Bo wp) (N (b-a)) (N p) x14 x21 x22 x23 x24 x25 x31 x32 x38 x39 x40 x41 x42 x43 x44 x45 x46 x47 x48 x49 x50 x51 x52 x53 x54 x55 x56 x57 x58 x59 x60 x61 x62 x63 x64 x65 x66 x67 x68 x69 x70 x71 x72 x73 x74 x75 x76 x77 x78 x79 x80 (W σ r A)):=by
  have key:=pq_part hc H hlo hn ih hab hb hp1 hp2 hA hL lim x14 hr
  rw [f145_J2_eq Qb]
  by_cases h0:0<a
  · by_cases h1:cmp (ge A (a-1)) (ge A p)<0
    · simp (disch:=omega) only [V,N,I,Bo,Zi,gtT,gG,sub1,idxL,ldW,Qc,List.append_nil,hc,Qp,ltT]
      exact key
    · have e1:=pe_ok hc hr hlo hn (show a<b by omega) hb (show p<n by omega) A hA
      have r1:RP a b A (swp A a p):=RP.swap ⟨by omega,by omega⟩ ⟨hp1,hp2⟩ (by omega)
      have hL1:=hL.perm r1
      have g:=fun k=>VX (A:=A) (i:=a) (j:=p) (by omega) (by omega) k
      have hpv:ltc cmp (ge (swp A a p) (a-1)) (ge (swp A a p) a)=false:=by
        have e2:ge (swp A a p) a=ge A p:=by
          rw [g]
          by_cases e:a=p
          · rw [if_pos e,e]
          · rw [if_neg e,if_pos rfl]
        rw [e2,r1.out (a-1) (by omega)]
        exact decide_eq_false h1
      have hm:=prtE_ok H (a:=a) (b:=b) (A:=swp A a p) (by omega) (by rw [QA]; omega) (hL1 h0) h0 hpv
      have hm:a<(prt (uE cmp) (vE cmp) a (b-a+1) (a+1) (b-1) (swp A a p)).1∧(prt (uE cmp) (vE cmp) a (b-a+1) (a+1) (b-1) (swp A a p)).1≤b∧RP a b (swp A a p) (prt (uE cmp) (vE cmp) a (b-a+1) (a+1) (b-1) (swp A a p)).2.2∧(∀ q,(prt (uE cmp) (vE cmp) a (b-a+1) (a+1) (b-1) (swp A a p)).1≤q→q<b→ltc cmp (ge (prt (uE cmp) (vE cmp) a (b-a+1) (a+1) (b-1) (swp A a p)).2.2 q) (ge (prt (uE cmp) (vE cmp) a (b-a+1) (a+1) (b-1) (swp A a p)).2.2 ((prt (uE cmp) (vE cmp) a (b-a+1) (a+1) (b-1) (swp A a p)).1-1))=false)∧∀ C,RP (prt (uE cmp) (vE cmp) a (b-a+1) (a+1) (b-1) (swp A a p)).1 b (prt (uE cmp) (vE cmp) a (b-a+1) (a+1) (b-1) (swp A a p)).2.2 C→Sd (ltc cmp) (prt (uE cmp) (vE cmp) a (b-a+1) (a+1) (b-1) (swp A a p)).1 b C→Sd (ltc cmp) a b C:=hm
      simp only [enE] at e1
      generalize (prt (uE cmp) (vE cmp) a (b-a+1) (a+1) (b-1) (swp A a p)).2.2=A1 at *
      generalize (prt (uE cmp) (vE cmp) a (b-a+1) (a+1) (b-1) (swp A a p)).1=m at *
      obtain ⟨m1,m2,m3,m4,m5⟩:=hm
      obtain ⟨C,σ1,q1,q2,q3,z,rfl⟩:=ih m b A1 lim wb wp σ (by omega) m2 hb ((r1.trans m3).len.trans hA) (fun _ q g1 g2=>m4 q g1 g2) hr
      refine ⟨C,_,?_,(r1.trans m3).trans (q2.mono (by omega) (Nat.le_refl _)),m5 C q2 q3,z,rfl⟩
      simp only [V,N,I,Bo] at e1
      simp (disch:=omega) only [V,N,I,Bo,Zi,gtT,gG,sub1,idxL,ldW,Qc,List.append_nil,hc,Qp,ltF,Qs]
      rw [e1]
      simp only [gG]
      exact q1
  · simp (disch:=omega) only [V,N,I,Bo,Zi,gtF,gG]
    exact key
include hc H in
theorem pq_J1 (hlo:lo≤r) (hn:n≤100000) {a b p:Nat} (ih:IH cf cmp r n lo (b-a)) (hab:a+12<b) (hb:b≤n) (hp1:a≤p) (hp2:p<b) {A:List E} (hA:A.length=n) (hL:Low cmp a b A) (lim h:Int) (wb wp:Bool) {σ:Qa} (hr:r<σ.length) (x21 x22 x23 x24 x25 x31 x32 x38 x39 x40 x41 x42 x43 x44 x45 x46 x47 x48 x49 x50 x51 x52 x53 x54 x55 x56 x57 x58 x59 x60 x61 x62 x63 x64 x65 x66 x67:DV) :
    Goal cmp r a b A σ (f145_J1 Qb lo (V r n) (N a) (N b) (I lim) (.fn cf []) (Bo wb) (Bo wp) (N (b-a)) (N p) (I h) x21 x22 x23 x24 x25 x31 x32 x38 x39 x40 x41 x42 x43 x44 x45 x46 x47 x48 x49 x50 x51 x52 x53 x54 x55 x56 x57 x58 x59 x60 x61 x62 x63 x64 x65 x66 x67 (W σ r A)):=by
  have e1:=pi_ok hc hr hlo hn hb (show a<b by omega) A hA
  have h1:=pins_ok H (a:=a) (b:=b) 5 (a+1) A (Nat.le_refl _) (by omega) (by omega) hL (fun p q g1 g2 g3=>by omega)
  rw [f145_J1_eq Qb]
  cases wb with
  | false=>simp only [Bo,gG]; exact UV hc H hlo hn ih hab hb hp1 hp2 hA hL lim false wp hr (I h) _ _ _ _ _ _ _ _ _ _ _ _ _ _ _ _ _ _ _ _ _ _ _ _ _ _ _ _ _ _ _ _ _ _ _ _ _ _ _ _ _ _ _ _ _ _ _ _ _ _
  | true=>
    cases wp with
    | false=>simp only [Bo,gG]; exact UV hc H hlo hn ih hab hb hp1 hp2 hA hL lim true false hr (I h) _ _ _ _ _ _ _ _ _ _ _ _ _ _ _ _ _ _ _ _ _ _ _ _ _ _ _ _ _ _ _ _ _ _ _ _ _ _ _ _ _ _ _ _ _ _ _ _ _ _
    | true=>
      by_cases hh:h=1
      · simp only [Bo,gG,I,Zc,eqT hh,Qs,List.append_nil]
        rw [e1]
        simp only [gG]
        cases hs:(pins (ltc cmp) a b 5 (a+1) A).1 with
        | true=>
          simp only [gG]
          exact ⟨_,σ,rfl,h1.1,h1.2 hs,[],(List.append_nil _).symm⟩
        | false=>
          simp only [gG]
          exact Goal.mono (UV hc H hlo hn ih hab hb hp1 hp2 (h1.1.len.trans hA) (hL.perm h1.1) lim true true hr (I h) _ _ _ _ _ _ _ _ _ _ _ _ _ _ _ _ _ _ _ _ _ _ _ _ _ _ _ _ _ _ _ _ _ _ _ _ _ _ _ _ _ _ _ _ _ _ _ _ _ _) h1.1 ⟨[],(List.append_nil _).symm⟩
      · simp only [Bo,gG,I,Zc,eqF hh]
        exact UV hc H hlo hn ih hab hb hp1 hp2 hA hL lim true true hr (I h) _ _ _ _ _ _ _ _ _ _ _ _ _ _ _ _ _ _ _ _ _ _ _ _ _ _ _ _ _ _ _ _ _ _ _ _ _ _ _ _ _ _ _ _ _ _ _ _ _ _
include hc H in
theorem pq_J0 (hlo:lo≤r) (hn:n≤100000) {a b:Nat} (ih:IH cf cmp r n lo (b-a)) (hab:a+12<b) (hb:b≤n) {A:List E} (hA:A.length=n) (hL:Low cmp a b A) (lim:Int) (wb wp:Bool) {σ:Qa} (hr:r<σ.length) (x21 x22 x23 x24 x25 x31 x32 x38 x39 x40 x41 x42 x43 x44 x45 x46:DV) :
    Goal cmp r a b A σ (f145_J0 Qb lo (V r n) (N a) (N b) (I lim) (.fn cf []) (Bo wb) (Bo wp) (N (b-a)) x21 x22 x23 x24 x25 x31 x32 x38 x39 x40 x41 x42 x43 x44 x45 x46 (W σ r A)):=by
  obtain ⟨p,h,k,e1,p1,p2⟩:=cp_ok hc hr hlo hn hab hb hA
  have hr1:r<(σ++[Row.mix [.p (.int .i64 k)]]).length:=by rw [List.length_append]; omega
  rw [f145_J0_eq Qb]
  simp only [Qs,List.append_nil]
  rw [e1]
  simp only [gG,Jo,Jn,Zc]
  by_cases hh:h=2
  · obtain ⟨B,g1,g2⟩:=rv_ok hr1 hlo hn (show a<b by omega) hb A hA (.fn cf [])
    simp only [V,N] at g2
    simp only [Q,eqT hh,gG,V,N]
    rw [g2]
    simp (disch:=omega) only [gG,sub1,subN]
    exact Goal.mono (pq_J1 hc H hlo hn ih hab hb (show a≤b-1-(p-a) by omega) (by omega) (g1.len.trans hA) (hL.perm g1) lim 1 wb wp hr1 _ _ _ _ _ _ _ _ _ _ _ _ _ _ _ _ _ _ _ _ _ _ _ _ _ _ _ _ _ _ _ _ _ _ _ _ _) g1 ⟨_,rfl⟩
  · simp only [Q,eqF hh,gG]
    exact Goal.mono (pq_J1 hc H hlo hn ih hab hb p1 p2 hA hL lim h wb wp hr1 _ _ _ _ _ _ _ _ _ _ _ _ _ _ _ _ _ _ _ _ _ _ _ _ _ _ _ _ _ _ _ _ _ _ _ _ _) (RP.refl _ _ _) ⟨_,rfl⟩
include hc H in
theorem pq_all (hlo:lo≤r) (hn:n≤100000):∀ m,IH cf cmp r n lo m
  | 0=>fun a b A lim wb wp σ hm=>by omega
  | m+1=>by
    intro a b A lim wb wp σ hm hab hb hA hL hr
    have ih:IH cf cmp r n lo (b-a):=fun a' b' A' lim' wb' wp' σ' h=>pq_all hlo hn m a' b' A' lim' wb' wp' σ' (by omega)
    rw [f145_L0_eq Qb rfl]
    by_cases h12:b-a≤12
    · have e1:=ins_ok hc hr hlo hn hb (show a≤n by omega) A hA
      simp only [V,N] at e1
      simp (disch:=omega) only [V,N,I,subN,Za,leT,gG,Qs,List.append_nil]
      rw [e1]
      simp only [gG]
      by_cases he:a=b
      · subst he
        refine ⟨_,σ,rfl,?_,fun i j h1 h2 h3=>by omega,[],(List.append_nil _).symm⟩
        rw [show a-(a+1)=0 by omega]
        exact RP.refl _ _ _
      · have h1:=insOut_ok H (a:=a) (b:=b) (b-(a+1)) (a+1) A (by omega) (by omega) (by omega) (fun p q g1 g2 g3=>by omega)
        exact ⟨_,σ,rfl,h1.1,h1.2,[],(List.append_nil _).symm⟩
    · by_cases h0:lim=0
      · have e1:=hs_ok hc hr hlo hn (show a<b by omega) hb A hA
        simp only [V,N] at e1
        simp (disch:=omega) only [V,N,I,subN,Za,leF,Zc,eqT,gG,Qs,List.append_nil]
        rw [e1]
        simp only [gG]
        have h1:=hpA_ok H (f:=a) (n:=b-a) ((b-a-1) / 2) A (by omega) (by omega) (fun i c g1 g2 g3=>by omega)
        have h2:=hpB_ok H (f:=a) (n:=b-a) (b-a) _ (Nat.le_refl _) (by rw [h1.1.len]; omega) h1.2 (fun p q g1 g2 g3=>by omega) (fun p q g1 g2 g3 g4=>by omega)
        rw [show a+(b-a)=b by omega] at h1 h2
        exact ⟨_,σ,rfl,h1.1.trans h2.1,h2.2,[],(List.append_nil _).symm⟩
      · cases wb with
        | true=>
          simp (disch:=omega) only [V,N,I,Bo,subN,Za,leF,Zc,eqF h0,gG]
          exact pq_J0 hc H hlo hn ih (by omega) hb hA hL lim true wp hr _ _ _ _ _ _ _ _ _ _ _ _ _ _ _ _
        | false=>
          obtain ⟨B,k,g1,g2⟩:=bp_ok hr hlo hn (show a+12<b by omega) hb hA (.fn cf [])
          have hr1:r<(σ++[Row.mix [.p (.int .u64 k)]]).length:=by rw [List.length_append]; omega
          simp only [V,N,QU] at g2
          simp (disch:=omega) only [V,N,I,Bo,subN,Za,leF,Zc,eqF h0,gG,Qs,List.append_nil]
          rw [g2]
          simp only [gG,subI]
          exact Goal.mono (pq_J0 hc H hlo hn ih (by omega) hb (g1.len.trans hA) (hL.perm g1) _ false wp hr1 _ _ _ _ _ _ _ _ _ _ _ _ _ _ _ _) g1 ⟨_,rfl⟩
include hc H in
theorem sort_ok (hlo:lo≤r) {A:List E} (hn:A.length≤100000) {σ:Qa} (h:σ[r]?=some (.mix (cels A))) :
    ∃ B e,CC lo 124 [.rsl r 3 0 A.length,.fn cf []] σ=some (.tuple [],W (σ++e) r B)∧B.Perm A∧Sd (ltc cmp) 0 A.length B:=by
  have hr:=QW h
  obtain ⟨b,e1,h2,h3⟩:=Jd (n:=A.length) (by omega)
  obtain ⟨B,σ1,g1,g2,g3,e,rfl⟩:=pq_all hc H hlo hn (A.length+1) 0 A.length A b true true σ (by omega) (Nat.zero_le _) (Nat.le_refl _) rfl (fun h0=>by omega) hr
  rw [W_eq h] at g1
  refine ⟨B,e,F124_call ?_,g2.perm,g3⟩
  have c1:CC lo 145 [V r A.length,N 0,N A.length,I b,.fn cf []] σ=some (.tuple [],W (σ++e) r B):=F145_call (by rw [F145_eq]; exact g1)
  have hl:len PP 23 (.rsl r 3 0 A.length) σ=some (N A.length):=by simp [len,uL]
  simp only [V,N,I,U] at c1 e1
  rw [F124_eq]
  simp (disch:=omega) only [V,N,I,hl,gG,Jc,Qc,Qs,List.append_nil,e1]
  have c2:CC lo 145 [.rsl r 3 0 A.length,.p (.int .i64 0),.p (.int .i64 (A.length:Nat)),.p (.int .i64 (b:Nat)),.fn cf []] σ=some (.tuple [],W (σ++e) r B):=c1
  rw [c2]
  simp only [gG]
end
end Go.D.StT
end
/- Chapter 22: steps sorted. -/
section
set_option linter.unusedVariables false
set_option linter.unusedSimpArgs false
namespace Go.D.StT
open Go.D.Srt
theorem ordE_lt (x y:Edg):ordE x y<0↔x.f<y.f∨(x.f=y.f∧(x.t<y.t∨(x.t=y.t∧x.a<y.a))):=by
  have h1:∀ c1 c2 c3:Int,orL [c1,c2,c3]<0↔c1<0∨(c1=0∧(c2<0∨(c2=0∧c3<0))):=fun c1 c2 c3=>by
    simp only [orL]
    repeat' split
    all_goals omega
  have h2:∀ u v:Int,cmpI u v<0↔u<v:=fun u v=>by unfold cmpI; split <;> (try split) <;> omega
  have h3:∀ u v:Int,cmpI u v=0↔u=v:=fun u v=>by unfold cmpI; split <;> (try split) <;> omega
  unfold ordE
  rw [h1,h2,h2,h2,h3,h3]
theorem ltc_iff (x y:Edg):ltc ordE x y=true↔ordE x y<0:=by unfold ltc; rw [decide_eq_true_iff]
theorem Vd (x y:Edg):ltc ordE x y=false↔¬ ordE x y<0:=by rw [←ltc_iff]; cases ltc ordE x y <;> simp
theorem ordO:Ord (ltc ordE) where
  asym x y h:=by
    rw [ltc_iff,ordE_lt] at h
    rw [Vd,ordE_lt]
    omega
  trans x y z h1 h2:=by
    rw [Vd,ordE_lt] at *
    omega
theorem ord_anti {x y:Edg} (h1:¬ ordE x y<0) (h2:¬ ordE y x<0):x=y:=by
  obtain ⟨a,b,c⟩:=x
  obtain ⟨a',b',c'⟩:=y
  rw [ordE_lt] at *
  simp only at *
  have e1:a=a':=by omega
  have e2:b=b':=by omega
  have e3:c=c':=by omega
  rw [e1,e2,e3]
theorem ord_irr (x:Edg):¬ ordE x x<0:=by rw [ordE_lt]; omega
theorem cels_eq (A:List Edg):cels A=(Ze A).map DV.p:=by
  induction A with
  | nil=>rfl
  | cons a A ih=>
    have e1:cels (a::A)=cel a++cels A:=rfl
    have e2:Ze (a::A)=eEdg a++Ze A:=rfl
    rw [e1,e2,List.map_append,ih]; rfl
theorem ZA {A:List Edg} {k:Nat} (hk:k<A.length):ge A k=A[k]:=by unfold ge; rw [List.getD_eq_getElem?_getD,List.getElem?_eq_getElem hk]; rfl
theorem sd_pair {B:List Edg} (h:Sd (ltc ordE) 0 B.length B):B.Pairwise fun x y=>¬ ordE y x<0:=by
  rw [List.pairwise_iff_getElem]
  intro i j hi hj hij
  have h1:=h i j (Nat.zero_le _) hij hj
  rw [Vd,ZA hi,ZA hj] at h1
  exact h1
theorem eqE' (a b c a' b' c':Int):binOp PP .eql 69 (.agg (edgD ⟨a,b,c⟩)) (.agg (edgD ⟨a',b',c'⟩))=((match some (a==a') with | some true=>(match some (b==b') with | some true=>(match some (c==c') with | some true=>some true | r=>r) | r=>r) | r=>r):Option Bool).map fun b=>.p (.bool b):=by kernel_rfl
theorem eqE_ne {x y:Edg} (h:x≠y):binOp PP .eql 69 (.agg (edgD x)) (.agg (edgD y))=some (.p (.bool false)):=by
  obtain ⟨a,b,c⟩:=x
  obtain ⟨a',b',c'⟩:=y
  rw [eqE']
  by_cases h1:a=a'
  · by_cases h2:b=b'
    · by_cases h3:c=c'
      · subst h1; subst h2; subst h3; exact absurd rfl h
      · simp [h1,h2,h3]
    · simp [h1,h2]
  · simp [h1]
theorem idx23r {r n i:Nat} (h:i<n):indexAddr PP 23 (.rsl r 3 0 n) (.p (.int .i64 (i:Nat)))=some (.ptr r (i*3)):=idxL h
theorem len23r (r n:Nat) (σ:Qa):len PP 23 (.rsl r 3 0 n) σ=some (.p (.int .i64 (n:Nat))):=by simp [len,u23]
theorem len23_nil (σ:Qa):len PP 23 (.p .nilsl) σ=some (.p (.int .i64 0)):=by simp [len,u23]
section
variable {σ : Qa} {r : Nat} {A : List Edg} (h : σ[r]? = some (.mix (cels A))) (hnd : ∀ i, i + 1 < A.length → ge A (i + 1) ≠ ge A i) (hn : A.length ≤ 100000)
include h hnd hn
theorem cmp_L0:∀ (d i:Nat),A.length-i=d→1≤i→f125_L0 Qb 0 (.rsl r 3 0 A.length) (N i) σ=some (.rsl r 3 0 A.length,σ)
  | 0,i,hd,hi=>by
    rw [f125_L0_eq Qb rfl]
    simp (disch:=omega) only [N,len23r,Qp,ltF,gG]
  | d+1,i,hd,hi=>by
    have ih:=cmp_L0 d (i+1) (by omega) (by omega)
    have hle:=hnd (i-1) (by omega)
    rw [show i-1+1=i by omega] at hle
    have hr:=QW h
    have hld:∀ k,k<A.length→load PP 69 (.ptr r (k*3)) σ=some (.agg (edgD (ge A k))):=fun k hk=>by
      have:=ldW (A:=A) hr hk
      rwa [W_eq h] at this
    rw [←ih,f125_L0_eq Qb rfl]
    simp (disch:=omega) only [N,len23r,Qp,ltT,gG,idx23r,hld,sub1,eqE_ne hle,add1]
end
theorem S125 {σ:Qa} {r:Nat} {A:List Edg} (h:σ[r]?=some (.mix (cels A))) (hnd:∀ i,i+1<A.length→ge A (i+1)≠ge A i) (hn:A.length≤100000):CC 0 125 [.rsl r 3 0 A.length] σ=some (.rsl r 3 0 A.length,σ):=by
  refine F125_call ?_
  rw [F125_eq]
  by_cases h1:A.length<2
  · simp (disch:=omega) only [len23r,Qp,ltT,gG]
  · simp (disch:=omega) only [len23r,Qp,ltF,gG]
    exact cmp_L0 h hnd hn _ 1 rfl (Nat.le_refl 1)
theorem S124n (σ:Qa):CC 0 124 [.p .nilsl,.fn 119 []] σ=some (.tuple [],σ):=by
  obtain ⟨b,e1,h2,h3⟩:=Jd (n:=0) (by omega)
  have c0:CC 0 154 [.p .nilsl,.p (.int .i64 0),.p (.int .i64 ((0:Nat):Int)),.fn 119 []] σ=some (.tuple [],σ):=by
    refine F154_call ?_
    have a1:binOp PP .add 3 (.p (.int .i64 0)) (.p (.int .i64 1))=some (.p (.int .i64 ((1:Nat):Int))):=add1 (a:=0) (by omega)
    rw [F154_eq]
    simp only [a1,gG]
    rw [f154_L0_eq Qb rfl]
    simp (disch:=omega) only [Qp,ltF,gG]
  have c1:CC 0 145 [.p .nilsl,.p (.int .i64 0),.p (.int .i64 ((0:Nat):Int)),I b,.fn 119 []] σ=some (.tuple [],σ):=by
    refine F145_call ?_
    have a2:binOp PP .sub 3 (.p (.int .i64 ((0:Nat):Int))) (.p (.int .i64 0))=some (.p (.int .i64 ((0-0:Nat):Int))):=subN (a:=0) (b:=0) (Nat.le_refl 0) (by omega)
    rw [F145_eq,f145_L0_eq Qb rfl]
    simp (disch:=omega) only [a2,Za,leT,gG,Qs,List.append_nil,c0]
  have hl:len PP 23 (.p .nilsl) σ=some (.p (.int .i64 ((0:Nat):Int))):=by simp [len,u23]
  refine F124_call ?_
  simp only [I,U] at c1 e1
  rw [F124_eq]
  simp (disch:=omega) only [hl,gG,Jc,Qc,Qs,List.append_nil,e1,c1]
open Go.D.StS (RowG KeepBut rowR) in
theorem S115 {σ:Qa} {B:Nat} {es:List Edg} {x:DV} (hx:RowG σ B 3 es.length (Ze es) x) (hnd:es.Nodup) (hn:es.length≤100000) :
    ∃ E' σ',CC 0 115 [x] σ=some (x,σ')∧E'.Perm es∧E'.Pairwise (fun a b=>ordE a b<0)∧KeepBut x σ σ'∧RowG σ' B 3 E'.length (Ze E') x∧σ.length≤σ'.length:=by
  rcases hx.2 with ⟨e,rfl⟩ | ⟨h0,r,rfl,e2,e3⟩
  · have:es=[]:=List.length_eq_zero_iff.1 e
    subst this
    refine ⟨[],σ,F115_call ?_,List.Perm.refl _,List.Pairwise.nil,fun j row _ h=>h,hx,Nat.le_refl _⟩
    have h125:CC 0 125 [.p .nilsl] σ=some (.p .nilsl,σ):=by
      refine F125_call ?_
      rw [F125_eq]
      simp (disch:=omega) only [len23_nil,Qp,ltT,gG]
    rw [F115_eq]
    simp only [Qs,List.append_nil,List.cons_append,List.nil_append,S124n,h125,gG]
  · rw [←cels_eq] at e2
    obtain ⟨E',e,s1,s2,s3⟩:=sort_ok (lo:=0) (cf:=119) (cmp:=ordE) S119 ordO (Nat.zero_le _) hn e2
    have hl:E'.length=es.length:=s2.length_eq
    have hr:=QW e2
    have gr:(W (σ++e) r E')[r]?=some (.mix (cels E')):=Jq (by rw [List.length_append]; omega) E'
    have hnd':E'.Nodup:=s2.nodup_iff.2 hnd
    have hle:=sd_pair (B:=E') (by rw [hl]; exact s3)
    have hp:E'.Pairwise (fun a b=>ordE a b<0):=by
      rw [List.nodup_iff_pairwise_ne] at hnd'
      exact hle.imp₂ (fun x y h1 h2=>by
        by_cases hlt:ordE x y<0
        · exact hlt
        · exact absurd (ord_anti hlt h1) h2) hnd'
    have h125:=S125 gr (fun i hi=>by
      rw [ZA hi,ZA (by omega)]
      intro e
      have:=List.pairwise_iff_getElem.1 hp i (i+1) (by omega) hi (by omega)
      rw [e] at this
      exact ord_irr _ this) (by omega)
    rw [hl] at h125
    refine ⟨E',W (σ++e) r E',F115_call ?_,s2,hp,?_,⟨by rw [edgs_length],.inr ⟨by omega,r,by rw [hl],by rw [←cels_eq]; exact gr,e3⟩⟩,by rw [W_len,List.length_append]; omega⟩
    · rw [F115_eq]
      simp only [Qs,List.append_nil,List.cons_append,List.nil_append,s1,h125,gG]
    · intro j row hj g
      have hne:j≠r:=hj r rfl
      exact Qv (by rw [List.getElem?_append_left (QW g)]; exact g) hne
end Go.D.StT
end
/- Chapter 22: graph as a whole. -/
section
set_option linter.unusedVariables false
set_option linter.unusedSimpArgs false
namespace Go.D.StS
open Go.D.Srt
theorem load95 (x:DV) (σ:Qa):load PP 95 x σ=(Wh σ 6 x).map .agg:=Eq.trans (by kernel_rfl) rfl
theorem s95:size? PP 95=some 6:=Eq.trans (by kernel_rfl) rfl
theorem zero95':Qz PP 95=some [.p (pI 0),.p .nilsl,.p .nilsl,.p .nilsl,.p .nilsl,.p .nilmap]:=Eq.trans (by kernel_rfl) rfl
theorem zero95:∃ z,Qz PP 95=some z∧z.length=6:=⟨_,zero95',rfl⟩
theorem zero134:Qz PP 134=some [.p .nilsl]:=Eq.trans (by kernel_rfl) rfl
theorem bld95 (n:Nat):build PP 95 [(1,.map n)]=some (.agg [.p (pI 0),.p .nilsl,.p .nilsl,.p .nilsl,.p .nilsl,.map n]):=Eq.trans (by kernel_rfl) rfl
theorem st95 {σ:Qa} {t:Nat} {z c:List DV} (h:σ[t]?=some (.mix z)) (hz:z.length=6) (hc:c.length=6) (ho:c.all DV.one=true):store PP 0 95 (.ptr t 0) (.agg c) σ=some (σ.set t (.mix c)):=by
  have e:QS z 0 c=c:=by simp [QS,hz,hc]
  simp [store,s95,DV.cells,Zs,hc,h,hz,ho,e]
theorem Ww (P:Program) (t:TypeId) (r off:Nat) (σ:Qa):Vt P t (.ptr r off) σ=load P t (.ptr r off) σ:=rfl
theorem GZ.keepE {σ0:Qa} {ext:List DV} {m:List (E×Int)} {B:List E} {n:DV} {is:List Int} {ix ex:DV} {es E':List Edg} {bx ax y:DV} {σ σ':Qa} (h:GZ σ0 ext m B n is ix es ex bx ax y σ)
    (hk:KeepBut ex σ σ') (hr:RowG σ' (σ0.length+5) 3 E'.length (Ze E') ex):GZ σ0 ext m B n is ix E' ex bx ax y σ':=
  ⟨h.gy.keep h.re hk h.ey,h.gm,Out.keep h.ob h.re hk,Out.keep h.oa h.re hk,h.ap,h.ri.keep hk (fun r hr he=>h.ie r he hr),hr,h.iy,h.ey,h.ie⟩
theorem Wf {σ:Qa} {B sz n:Nat} {cs:List PV} {x:DV} (h:RowG σ B sz n cs x):x.one=true∧x.cells=[x]:=by
  rcases h.2 with ⟨_,rfl⟩ | ⟨_,q,rfl,_⟩ <;> exact ⟨rfl,rfl⟩
theorem len23g {σ σ':Qa} {B:Nat} {es:List Edg} {x:DV} (h:RowG σ B 3 es.length (Ze es) x):len PP 23 x σ'=some (.p (.int .i64 (es.length:Nat))):=by
  rcases h.2 with ⟨e,rfl⟩ | ⟨_,q,rfl,_⟩
  · rw [e]; simp [len,u23]
  · simp [len,u23]
theorem set_id {σ:Qa} {t:Nat} {row:Row} (h:σ[t]?=some row):σ.set t row=σ:=by
  apply List.ext_getElem?
  intro i
  by_cases hi:i=t
  · subst hi; rw [List.getElem?_set_self (QW h),h]
  · rw [List.getElem?_set_ne (by omega)]
structure GR (lo:Nat) (B:List E) (is:List Int) (E':List Edg) (ix ex bx ax:DV) (σ:Qa):Prop where
  ob:Out σ lo 1 B.length (Qu (B.map Prod.fst)) bx
  oa:Out σ lo 1 B.length (Qu (B.map Prod.snd)) ax
  ri:RowG σ lo 1 is.length (Qu is) ix
  re:RowG σ lo 3 E'.length (Ze E') ex
theorem gr_end {σ0:Qa} {ext:List DV} {m:List (E×Int)} {B:List E} {is:List Int} {ix ex:DV} {es:List Edg} {bx ax y:DV} {σ:Qa} (h:GZ σ0 ext m B (.p (pI B.length)) is ix es ex bx ax y σ) (hnd:es.Nodup) (hB:B.length≤400) (he:es.length≤2000) :
    ∃ E' σ',f85_L5 Qb 0 (.ptr σ0.length 0) (.ptr (σ0.length+1) 0) (.ptr (σ0.length+3) 0) (.ptr (σ0.length+4) 0) y (N B.length) (N B.length) σ=some (.tuple [.agg [.p (pI B.length),ix,ex,bx,ax,.map (σ0.length+2)],.p (pI 0)],σ')∧
      E'.Perm es∧E'.Pairwise (fun a b=>ordE a b<0)∧GR (σ0.length+5) B is E' ix ex bx ax σ'∧(∀ j,j<σ0.length→σ'[j]?=σ0[j]?)∧σ'[σ0.length+2]?=some (.map (entZ m))∧(∀ j,j<B.length→WZ m (ge B j)=some (j:Int))∧σ0.length+5≤σ'.length:=by
  obtain ⟨E',σ1,p1,p2,p3,p4,p5,p6⟩:=StT.S115 h.re hnd (by omega)
  have h1:=h.keepE p4 p5
  have hot:=h.gy.g.ot
  have hot1:=h1.gy.g.ot
  simp only [Qe,Qf,Nat.zero_add,Nat.add_zero,Qc,List.append_nil,List.singleton_append,List.cons_append,List.nil_append] at hot hot1
  have hst:=st23_2 (v:=ex) hot1 (Wf p5).1 (Wf p5).2
  rw [set_id hot1] at hst
  obtain ⟨z,z1,z2⟩:=h1.gy.g.z2
  have hl1:=h1.gy.g.len
  have hone:([.p (pI B.length),ix,ex,bx,ax,.map (σ0.length+2)]:List DV).all DV.one=true:=by
    simp [(Wf p5).1,(Wf h1.ri).1,(QQ h1.ob).1,(QQ h1.oa).1]
    exact ⟨rfl,rfl⟩
  have hst2:=st95 (c:=[.p (pI B.length),ix,ex,bx,ax,.map (σ0.length+2)]) z1 z2 rfl hone
  have hld:load PP 95 (.ptr (σ0.length+3) 0) σ1=some (.agg [.p (pI B.length),ix,ex,bx,ax,.map (σ0.length+2)]):=by
    rw [load95,QK (vs:=[.p (pI B.length),ix,ex,bx,ax,.map (σ0.length+2)]) hot1 rfl (by simp)]; rfl
  have hcv:Vt PP 95 (.ptr (σ0.length+1) 0) (σ1.set (σ0.length+1) (.mix [.p (pI B.length),ix,ex,bx,ax,.map (σ0.length+2)]))=some (.agg [.p (pI B.length),ix,ex,bx,ax,.map (σ0.length+2)]):=by
    have hg:(σ1.set (σ0.length+1) (.mix [.p (pI B.length),ix,ex,bx,ax,.map (σ0.length+2)]))[σ0.length+1]?=some (.mix [.p (pI B.length),ix,ex,bx,ax,.map (σ0.length+2)]):=by rw [List.getElem?_set_self (by omega)]
    rw [Ww,load95,QK (vs:=[.p (pI B.length),ix,ex,bx,ax,.map (σ0.length+2)]) hg rfl (by simp)]; rfl
  refine ⟨E',σ1.set (σ0.length+1) (.mix [.p (pI B.length),ix,ex,bx,ax,.map (σ0.length+2)]),?_,p2,p3,⟨Out.setLow h1.ob (by omega) _,Out.setLow h1.oa (by omega) _,h1.ri.setNe (by omega),h1.re.setNe (by omega)⟩,fun j hj=>?_,Qv h1.gy.g.mp (by omega),h1.gm,by rw [List.length_set]; omega⟩
  · have hE:E'.length≤2000:=by rw [p2.length_eq]; exact he
    rw [f85_L5_eq Qb rfl]
    simp (disch:=omega) only [N,Qp,ltF,gG,UN,Wj,Zj,Qe,Qf,Nat.zero_add,Nat.add_zero,Qc,List.append_nil,List.singleton_append,List.cons_append,List.nil_append,Zh,Qd (off:=2) hot rfl,Qs,p1,hst,Ve,Qd (off:=0) h1.gy.ay rfl,lenR h1.gy.ry,Zi,gtF,Qd (off:=2) hot1 rfl,len23g p5,hld,hst2,hcv]
  · rw [List.getElem?_set_ne (by omega)]
    exact h1.gy.g.low j hj
theorem gr_main {σ0:Qa} {mv:FuncId} {caps:List DV} {y0:DV} {l:List E} (hy0:y0.one=true) (hyl:∀ σ,len PP 134 y0 σ=some (N l.length)) (hx:∀ k,k<l.length→indexAddr PP 134 y0 (.p (.int .i64 (k:Nat)))=some (.pptr (Vs l) (k*2)))
    (M:E→OE) (Pn:E→Prop) (K:Nat) (hK:K≤400) (hM:∀ x,Pn x→∀ σ:Qa,(∀ j,j<σ0.length→σ[j]?=σ0[j]?)→Qx CC mv (val x::caps) σ=some (.p (eEs (M x)))) (hl:∀ x,Pn x→(L (M x)).length≤200)
    (I:List E→Prop) (hP:∀ A,I A→∀ x∈A,Pn x) (hN:∀ A,I A→A.length≤K∧A.Nodup) (hI:∀ A x,I A→x∈A→I (Zk A ((L (M x)).map toE))) (hI0:I (Zk [] l)) (hl12:l.length≤12) (hasc:Asc l)
    (hcl:∀ x∈groM M K 0 (Zk [] l),∀ e∈L (M x),toE e∈groM M K 0 (Zk [] l)) (hsub:∀ x∈l,x∈groM M K 0 (Zk [] l))
    (hes:∀ B:List E,B.Perm (groM M K 0 (Zk [] l))→Asc B→(rawE M B 0 B).Nodup∧(rawE M B 0 B).length≤2000) :
    ∃ B E' ix ex bx ax σ' m,CC 0 85 [.agg [y0,.fn mv caps]] σ0=some (.tuple [.agg [.p (pI B.length),ix,ex,bx,ax,.map (σ0.length+2)],.p (pI 0)],σ')∧
      B.Perm (groM M K 0 (Zk [] l))∧Asc B∧E'.Perm (rawE M B 0 B)∧E'.Pairwise (fun a b=>ordE a b<0)∧GR (σ0.length+5) B (nums B l) E' ix ex bx ax σ'∧(∀ j,j<σ0.length→σ'[j]?=σ0[j]?)∧
      σ'[σ0.length+2]?=some (.map (entZ m))∧(∀ j,j<B.length→WZ m (ge B j)=some (j:Int))∧σ0.length+5≤σ'.length:=by
  obtain ⟨z2,hz2,hz2l⟩:=zero95
  have g0:GS σ0 [y0,.fn mv caps] (zer []) [] [.p (pI 0),.p .nilsl,.p .nilsl,.p .nilsl,.p .nilsl]
      (σ0++[Row.mix [y0,.fn mv caps],.mix z2,.map [],.mix [.p (pI 0),.p .nilsl,.p .nilsl,.p .nilsl,.p .nilsl,.map (σ0.length+2)],.mix [.p .nilsl]]):=by
    refine ⟨fun j hj=>by rw [List.getElem?_append_left hj],?_,⟨z2,?_,hz2l⟩,?_,?_,rfl,.p .nilsl,?_,.inl ⟨rfl,rfl⟩⟩ <;>
      (rw [List.getElem?_append_right (by omega)]; simp)
    · rfl
  have hNi:=hN _ hI0
  obtain ⟨σ1,a1,a2⟩:=gr_L0 (x24:=y0) hx (by omega) _ 0 [] _ rfl (Nat.zero_le _) g0 (by rw [List.drop_zero]; have:=hNi.1; omega)
  rw [List.drop_zero] at a2
  obtain ⟨σ2,b1,b2,b3⟩:=gr_L1 ⟨y0,rfl⟩ M Pn K hM (fun x hx=>Nat.le_trans (hl x hx) (by decide)) (by omega) I hP (fun A hA=>(hN A hA).1) hI K 0 _ σ1 rfl (Nat.zero_le _) a2 hI0
  generalize hG:groM M K 0 (Zk [] l)=G at *
  have hGn:=hN _ b2
  obtain ⟨B,σ3,y,c1,c2,c3,c4,c5,c6⟩:=gr_sort b1 (by omega)
  have hBl:B.length=G.length:=c1.length_eq
  have hBnd:B.Nodup:=c1.nodup_iff.2 hGn.2
  have hB:Asc B:=by
    have:=hBnd
    rw [List.nodup_iff_pairwise_ne] at this
    exact c2.imp₂ (fun x y h1 h2=>by
      by_cases hlt:ltB x y
      · exact hlt
      · exact absurd (ltB_anti hlt h1) h2) this
  have hmem:∀ x,x∈B↔x∈G:=fun x=>c1.mem_iff
  obtain ⟨m,bx,ax,σ4,d1,d2,d3,d4,d5,d6⟩:=gr_L3 hBnd (by omega) _ 0 (zer G) (.p .nilsl) (.p .nilsl) σ3 rfl (Nat.zero_le _) ⟨c3,c4,c5⟩ Out.zero Out.zero (Apart.nil _) (fun j hj=>by omega)
  have hz:GZ σ0 [y0,.fn mv caps] m B (.p (pI B.length)) (nums B (l.take 0)) (.p .nilsl) [] (.p .nilsl) bx ax y σ4:=
    ⟨d2,d6,d3,d4,d5,RowG.zero,RowG.zero,fun r h=>by simp [rowR] at h,fun r h=>by simp [rowR] at h,fun r h=>by simp [rowR] at h⟩
  have hnl:(nums B l).length=l.length:=by simp [nums]
  obtain ⟨ix,σ5,e1,e2⟩:=gr_L4 hx (fun e he=>(hmem e).2 (hsub e he)) hl12 (fun i hi=>by
    rw [hnl] at hi
    have hlt:=asc_lt hasc (show i<i+1 by omega) hi
    have k1:=ZR ((hmem _).2 (hsub (ge l i) (by rw [ZA (by omega)]; exact List.getElem_mem _)))
    have k2:=ZR ((hmem _).2 (hsub (ge l (i+1)) (by rw [ZA hi]; exact List.getElem_mem _)))
    have q:∀ j,j<l.length→(nums B l).getD j 0=((B.idxOf (ge l j):Nat):Int):=fun j hj=>by
      rw [List.getD_eq_getElem?_getD,List.getElem?_eq_getElem (by rw [hnl]; exact hj),ZA hj]; simp [nums]
    rw [q i (by omega),q (i+1) hi]
    by_cases hle:B.idxOf (ge l (i+1))≤B.idxOf (ge l i)
    · exfalso
      rcases Nat.lt_or_eq_of_le hle with hlt2 | heq
      · have:=asc_lt hB hlt2 k1.1
        rw [k1.2,k2.2] at this
        unfold ltB at *; omega
      · have:=k1.2
        rw [←heq,k2.2] at this
        rw [this] at hlt
        unfold ltB at hlt; omega
    · omega) _ 0 _ σ4 rfl (Nat.zero_le _) hz
  obtain ⟨ex,σ6,f1,f2⟩:=gr_L5 M (by omega) (fun x hx=>hM x (hP _ b2 x ((hmem x).1 hx))) (fun x hx=>hl x (hP _ b2 x ((hmem x).1 hx))) (fun x hx e he=>(hmem _).2 (hcl x ((hmem x).1 hx) e he)) _ 0 [] (.p .nilsl) σ5 rfl (Nat.zero_le _) (Nat.zero_le _) e2
  rw [List.drop_zero,List.nil_append] at f2
  obtain ⟨hn1,hn2⟩:=hes B c1 hB
  obtain ⟨E',σ',g1,g2,g3,g4,g5,g6,g7,g8⟩:=gr_end f2 hn1 (by omega) hn2
  refine ⟨B,E',ix,ex,bx,ax,σ',m,F85_call ?_,c1,hB,g2,g3,g4,g5,g6,g7,g8⟩
  have hbox:boxV (.agg [y0,.fn mv caps])=some [y0,.fn mv caps]:=by
    have:(DV.fn mv caps).one=true:=rfl
    have e:(DV.agg [y0,.fn mv caps]).cells=[y0,.fn mv caps]:=rfl
    simp [boxV,e,hy0,this]
  have hst:store PP 0 95 (.ptr (((σ0++[Row.mix [y0,.fn mv caps]])++[Row.mix z2])++[Row.map []]).length 0) (.agg [.p (pI 0),.p .nilsl,.p .nilsl,.p .nilsl,.p .nilsl,.map (σ0.length+2)]) ((((σ0++[Row.mix [y0,.fn mv caps]])++[Row.mix z2])++[Row.map []])++[Row.mix z2]) =
      some ((((σ0++[Row.mix [y0,.fn mv caps]])++[Row.mix z2])++[Row.map []])++[.mix [.p (pI 0),.p .nilsl,.p .nilsl,.p .nilsl,.p .nilsl,.map (σ0.length+2)]]):=by
    rw [st95 QE hz2l rfl (by rfl),List.set_append_right _ _ (Nat.le_refl _),Nat.sub_self]
    rfl
  have hl2:((σ0++[Row.mix [y0,.fn mv caps]])++[Row.mix z2]).length=σ0.length+2:=by simp
  rw [F85_eq]
  simp only [hbox,hz2,gG,hl2,bld95]
  rw [hst]
  have hsσ:(((((σ0++[Row.mix [y0,.fn mv caps]])++[Row.mix z2])++[Row.map []])++[.mix [.p (pI 0),.p .nilsl,.p .nilsl,.p .nilsl,.p .nilsl,.map (σ0.length+2)]])++[Row.mix [.p .nilsl]]) =
    (σ0++[Row.mix [y0,.fn mv caps],.mix z2,.map [],.mix [.p (pI 0),.p .nilsl,.p .nilsl,.p .nilsl,.p .nilsl,.map (σ0.length+2)],.mix [.p .nilsl]]):=by simp
  have hl3:(((σ0++[Row.mix [y0,.fn mv caps]])++[Row.mix z2])++[Row.map []]).length=σ0.length+3:=by simp
  have hl4:((((σ0++[Row.mix [y0,.fn mv caps]])++[Row.mix z2])++[Row.map []])++[Row.mix [.p (pI 0),.p .nilsl,.p .nilsl,.p .nilsl,.p .nilsl,.map (σ0.length+2)]]).length=σ0.length+4:=by simp
  have hl1:(σ0++[Row.mix [y0,.fn mv caps]]).length=σ0.length+1:=by simp
  simp only [gG,zero134,hl3,hl4,hl1,hsσ,fa137_0,Qe,Qf,Nat.zero_add,Nat.add_zero,Qc,List.append_nil,List.singleton_append,List.cons_append,List.nil_append,Ve,Qd (off:=0) g0.ex rfl,hyl]
  have hd:=d1
  rw [hyl] at hd
  refine a1.trans (b3.trans (c6.trans (d1.trans ?_)))
  rw [hyl]
  exact e1.trans (f1.trans g1)
end Go.D.StS
end
/- Chapter 22: errors of paths, ticks, and hidden paths. -/
section
set_option linter.unusedVariables false
set_option linter.unusedSimpArgs false
namespace Go.D
def badN (g:Gr) (v:Int):Bool:=!inR v 0 (pred g.n)
def stpK (g:Gr) (p:List Int) (i:Nat):Bool:=(L g.edges).any (VE (p.getD (i-1) 0) (p.getD i 0))
def pthE (g:Gr) (p:List Int):Int:=
  if p.length=0 then 1 else if p.length>60 then 2 else if p.any (badN g)=true then 3 else if (hasI (L g.init) (p.getD 0 0)&&QM (stpK g p) 1 (p.length-1))=true then 0 else 14
theorem idx_ne {α:Type} (q:α→Bool) (l:List α):(!decide (QG q l 0 = -1))=l.any q:=by
  rw [←idxFrom_ge q l 0]
  have h:∀ (l:List α) (i:Nat),QG q l i = -1∨0≤QG q l i:=by
    intro l
    induction l with
    | nil=>exact fun i=>.inl rfl
    | cons a l ih=>
      intro i
      unfold QG
      split
      · right; omega
      · exact ih (i+1)
  rcases h l 0 with h | h
  · rw [h]; rfl
  · have h1:¬ QG q l 0 = -1:=by omega
    have h2:QG q l 0≥0:=h
    simp [h1,h2]
theorem idx_lt {α:Type} (q:α→Bool) (l:List α):decide (QG q l 0<0) = !l.any q:=by
  rw [←idxFrom_ge q l 0]
  by_cases h:QG q l 0<0
  · have h2:¬ QG q l 0≥0:=by omega
    simp [h,h2]
  · have h2:QG q l 0≥0:=by omega
    simp [h,h2]
theorem box_int (n:Int):boxV (.p (.int .i64 n))=some [.p (.int .i64 n)]:=rfl
theorem S55 {g:Gr} {s t:Int} {σ:Qa} (he:(L g.edges).length≤10000):Qx CC 55 [.agg (eGr g),.p (pI s),.p (pI t)] σ=some (.p (pI (QG (VE s t) (L g.edges) 0))):=by
  refine Qn (by simp [Zx]; exact ⟨rfl,rfl⟩) rfl (F55_call (r:=(.p (pI (QG (VE s t) (L g.edges) 0)),[Row.mix (eGr g),Row.mix [.p (pI s)],Row.mix [.p (pI t)]])) ?_) rfl
  have g0:([Row.mix (eGr g),Row.mix [.p (pI s)],Row.mix [.p (pI t)]]:Qa)[0]?=some (.mix (eGr g)):=rfl
  have g1:([Row.mix (eGr g),Row.mix [.p (pI s)],Row.mix [.p (pI t)]]:Qa)[1]?=some (.mix [.p (pI s)]):=rfl
  have g2:([Row.mix (eGr g),Row.mix [.p (pI s)],Row.mix [.p (pI t)]]:Qa)[2]?=some (.mix [.p (pI t)]):=rfl
  rw [F55_eq]
  simp only [Zo,box_int,QB,List.length_nil,List.nil_append,List.length_cons,List.cons_append,Nat.reduceAdd]
  generalize ([Row.mix (eGr g),Row.mix [.p (pI s)],Row.mix [.p (pI t)]]:Qa)=τ at *
  have h90:Qx CC 90 [.p (eEs g.edges),.fn 91 [.ptr 1 0,.ptr 2 0]] τ=some (.p (pI (QG (VE s t) (L g.edges) 0))):=S90 he (by
    rintro σ0 (⟨_,hb⟩ | rfl) e
    · simp [ZV] at hb
    · exact S91 g1 g2)
  simp only [Zj,Qe,Qf,Nat.zero_add,Nat.add_zero,Qc,List.append_nil,List.singleton_append,List.cons_append,List.nil_append,Zh,Qd (off:=2) g0 rfl,h90,QB]
theorem S87b {g:Gr} {o:OI} {σ:Qa} (h:σ[0]?=some (.mix (eGr g))) (hl:(L o).length≤1000):Qx CC 86 [.p (eSl o),.fn 87 [.ptr 0 0]] σ=some (.p (.bool ((L o).any (badN g)))):=S86 hl (by
  rintro σ0 (⟨_,hb⟩ | rfl) v
  · simp [ZV] at hb
  · exact S87 h)
theorem slice1 {o:OI} (h:1≤(L o).length):∃ v,ZY PP 22 (.p (eSl o)) (some (.p (.int .i64 1))) none none=some v∧∀ σ,len PP 22 v σ=some (.p (.int .i64 ((L o).length-1:Nat))):=by
  cases o with
  | none=>simp at h
  | some l=>
    have h1:(1:Int)≤(l.length:Nat):=by simp at h; omega
    have hl:1≤l.length:=by simpa using h
    refine ⟨_,by simp [ZY,u22,s3,WG,eSl,h1,hl]; rfl,fun σ=>by simp [len,u22]⟩
theorem bs143_3' (a b c:Int) (σ:Qa):buildSlice PP none 143 3 [(0,.p (pI a)),(1,.p (pI b)),(2,.p (pI c))] σ=some (.p (.sl true 3 (Qu [a,b,c])),σ):=bs143_3 a b c σ
theorem Ws {σ:Qa} {g:Gr} (h:σ[0]?=some (.mix (eGr g))):load PP 25 (.ptr 0 0) σ=some (.agg (eGr g)):=by rw [UH,QK (vs:=eGr g) h rfl (by simp [eGr])]; rfl
theorem L54 {g:Gr} {o:OI} {σ:Qa} (h:σ[0]?=some (.mix (eGr g))) (he:(L g.edges).length≤10000) (hl:(L o).length≤1000) (lo:Nat) :
    ∀ (k i:Nat) (b:Bool),(L o).length-1-i=k→i+1≤(L o).length→f54_L0 Qb lo (.p (eSl o)) (.ptr 0 0) (.p (.bool b)) (.p (.int .i64 ((L o).length-1:Nat))) (N i) σ=some (.p (pI (if (b&&QM (stpK g (L o)) (i+1) k)=true then 0 else 14)),σ)
  | 0,i,b,hk,hi=>by
    have hn:¬ ((i:Int)<((L o).length-1:Nat)):=by omega
    rw [f54_L0_eq Qb rfl]
    simp only [N,Qp,ltF hn,gG,Qe,Qf,Nat.zero_add,Nat.add_zero,Qc,List.append_nil,List.singleton_append,List.cons_append,List.nil_append,S73,QM,Bool.and_true]
  | k+1,i,b,hk,hi=>by
    have hlt:(i:Int)<((L o).length-1:Nat):=by omega
    have h0:i<(L o).length:=by omega
    have h1:i+1<(L o).length:=by omega
    have ih:=fun b=>L54 h he hl lo k (i+1) b (by omega) (by omega)
    rw [f54_L0_eq Qb rfl,QM]
    cases b with
    | false=>
      simp (disch:=omega) only [N,Qp,ltT hlt,gG,add1]
      refine (ih _).trans ?_
      simp only [Bool.false_and]
    | true=>
      simp (disch:=omega) only [N,Qp,ltT hlt,gG,Ws h,idxL,QJ,ldL,add1,Qe,Qf,Nat.zero_add,Nat.add_zero,Qc,List.append_nil,List.singleton_append,List.cons_append,List.nil_append,S55 he,ZO,idx_ne]
      refine (ih _).trans ?_
      simp only [Bool.true_and,stpK,Nat.add_sub_cancel]
theorem S54 {g:Gr} {o:OI} {σ:Qa} (hl:(L o).length≤1000) (hi:(L g.init).length≤1000) (he:(L g.edges).length≤10000):Qx CC 54 [.agg (eGr g),.p (eSl o)] σ=some (.p (pI (pthE g (L o)))):=by
  have g0:([Row.mix (eGr g)]:Qa)[0]?=some (.mix (eGr g)):=rfl
  refine Qn (by simp [Zx,Zg]) rfl (F54_call (r:=(.p (pI (pthE g (L o))),[.mix (eGr g)])) ?_) rfl
  rw [F54_eq]
  simp only [Zo,QB,List.length_nil,List.nil_append]
  generalize ([Row.mix (eGr g)]:Qa)=τ at *
  have h53:∀ (a b c:Int) (σ:Qa),Qx CC 53 [.p (.sl true 3 (Qu [a,b,c]))] σ=some (.p (pI (orL [a,b,c]))):=fun a b c σ=>S53t (l:=[a,b,c]) rfl (by simp)
  simp only [Qe,Qf,Nat.zero_add,Nat.add_zero,Qc,List.append_nil,List.singleton_append,List.cons_append,List.nil_append,S87b g0 hl,QP,Zi,Za,S73,ZC,gG,bs143_3',h53,ZO]
  unfold pthE
  by_cases h1:(L o).length=0
  · have h1':¬ ((L o).length:Int)>0:=by omega
    rw [if_pos h1,decide_eq_false h1']
    simp only [Bool.false_eq_true,if_false,orL,gG]
    rfl
  · have h1':((L o).length:Int)>0:=by omega
    rw [if_neg h1,decide_eq_true h1']
    by_cases h2:(L o).length>60
    · have h2':¬ ((L o).length:Int)≤60:=by omega
      rw [if_pos h2,decide_eq_false h2']
      simp only [Bool.false_eq_true,if_false,if_true,orL,gG]
      rfl
    · have h2':((L o).length:Int)≤60:=by omega
      rw [if_neg h2,decide_eq_true h2']
      cases h3:(L o).any (badN g) with
      | true=>
        simp only [gG,Bool.false_eq_true,if_false,if_true,orL]
        rfl
      | false=>
        obtain ⟨v,hv1,hv2⟩:=slice1 (o:=o) (by omega)
        have hx0:indexAddr PP 22 (.p (eSl o)) (.p (.int .i64 0))=some (.pptr (Qu (L o)) 0):=idxL (i:=0) (by omega)
        have hld:=fun σ=>ldL (o:=o) (i:=0) (by omega) σ
        have hL:=L54 g0 he hl 0 ((L o).length-1) 0 (hasI (L g.init) ((L o).getD 0 0)) rfl (by omega)
        have hL:f54_L0 Qb 0 (.p (eSl o)) (.ptr 0 0) (.p (.bool (hasI (L g.init) ((L o).getD 0 0)))) (.p (.int .i64 ((L o).length-1:Nat))) (.p (.int .i64 0)) τ=_:=hL
        simp only [gG,Bool.false_eq_true,if_false,if_true,orL,eqT (rfl:(0:Int)=0),WA,Qe,Qf,Nat.zero_add,Nat.add_zero,Qc,List.append_nil,List.singleton_append,List.cons_append,List.nil_append,QH,Qd (off:=1) g0 rfl,hx0,QJ,hld,S89 hi,hv1,hv2,hL]
theorem L63 {g:Gr} {s t:Int} {σ:Qa} {lo:Nat} (h0:σ[0]?=some (.mix (eGr g))) (hl:(L g.edges).length≤10000) :
    ∀ (k i:Nat),(L g.edges).length-i=k→i≤(L g.edges).length→f63_L0 Qb lo (.p (pI s)) (.p (pI t)) (.ptr 0 0) (N i) σ=some (.p (pI (QG (VE s t) ((L g.edges).drop i) i)),σ)
  | 0,i,hk,hi=>by
    have hn:¬ ((i:Int)<((L g.edges).length:Nat)):=by omega
    rw [f63_L0_eq Qb rfl,List.drop_of_length_le (by omega)]
    simp only [N,Zj,Qe,Qf,Nat.zero_add,Nat.add_zero,Qc,List.append_nil,List.singleton_append,List.cons_append,List.nil_append,Zh,Qd (off:=2) h0 rfl,Wz,Qp,ltF hn,gG,QG]
  | k+1,i,hk,hi=>by
    have h:i<(L g.edges).length:=by omega
    have h':(i:Int)<((L g.edges).length:Nat):=by omega
    obtain ⟨g1,g2,g3⟩:=edgs_get (L g.edges) i h
    have ih:=L63 (s:=s) (t:=t) (lo:=lo) h0 hl k (i+1) (by omega) (by omega)
    have ih:f63_L0 Qb lo (.p (pI s)) (.p (pI t)) (.ptr 0 0) (.p (.int .i64 ((i+1:Nat)))) σ=_:=ih
    rw [f63_L0_eq Qb rfl,Wu h,QG]
    simp only [N,Zj,Ug,Qe,Qf,Nat.zero_add,Nat.add_zero,Qc,List.append_nil,List.singleton_append,List.cons_append,List.nil_append,Zh,Qd (off:=2) h0 rfl,Wz,Qp,ltT h',gG,Uj h,QJ,WE g1,Zc]
    by_cases e1:(L g.edges)[i].f=s
    · simp only [eqT e1,gG,Zj,Uo,Qe,Qf,Nat.zero_add,Nat.add_zero,Qc,List.append_nil,List.singleton_append,List.cons_append,List.nil_append,Zh,Qd (off:=2) h0 rfl,Uj h,QJ,WE g2,Zc]
      by_cases e2:(L g.edges)[i].t=t
      · simp only [eqT e2,gG,VE,eqT e1,Bool.true_and,if_true]
      · simp (disch:=omega) only [eqF e2,gG,VE,eqT e1,Bool.true_and,Bool.false_eq_true,if_false,add1]
        exact ih
    · simp (disch:=omega) only [eqF e1,gG,VE,Bool.false_and,Bool.false_eq_true,if_false,add1]
      exact ih
theorem S63 {g:Gr} {s t:Int} {σ:Qa} (hl:(L g.edges).length≤10000):Qx CC 63 [.agg (eGr g),.p (pI s),.p (pI t)] σ=some (.p (pI (QG (VE s t) (L g.edges) 0))):=by
  have g0:([Row.mix (eGr g)]:Qa)[0]?=some (.mix (eGr g)):=rfl
  refine Qn (by simp [Zx]; exact ⟨rfl,rfl⟩) rfl (F63_call (r:=(.p (pI (QG (VE s t) (L g.edges) 0)),[.mix (eGr g)])) ?_) rfl
  rw [F63_eq]
  simp only [Zo,QB,List.length_nil,List.nil_append]
  exact L63 (lo:=0) g0 hl _ 0 rfl (Nat.zero_le _)
section
variable {g : Gr} {o : OI} {σ : Qa} (h0 : σ[0]? = some (.mix (eGr g))) (hl : (L o).length ≤ 1000) (hi : (L g.init).length ≤ 1000) (he : (L g.edges).length ≤ 10000)
include h0 hl hi he
omit hi in
theorem L22_1 (lo:Nat):∀ (k i:Nat),(L o).length-i=k→1≤i→f22_L1 Qb lo (.p (eSl o)) (.ptr 0 0) (N i) σ=some (.p (pI (if QM (stpK g (L o)) i k=true then 0 else 14)),σ)
  | 0,i,hk,h1=>by
    have hn:¬ ((i:Int)<((L o).length:Nat)):=by omega
    rw [f22_L1_eq Qb rfl]
    simp only [N,QP,Qp,ltF hn,gG,QM,if_true]
  | k+1,i,hk,h1=>by
    have hlt:(i:Int)<((L o).length:Nat):=by omega
    have ha:i-1<(L o).length:=by omega
    have hb:i<(L o).length:=by omega
    have ih:=L22_1 lo k (i+1) (by omega) (by omega)
    rw [f22_L1_eq Qb rfl,QM]
    simp (disch:=omega) only [N,QP,Qp,ltT hlt,gG,Ws h0,sub1,idxL,QJ,ldL,Qe,Qf,Nat.zero_add,Nat.add_zero,Qc,List.append_nil,List.singleton_append,List.cons_append,List.nil_append,S63 he,idx_lt]
    have e:stpK g (L o) i=(L g.edges).any (VE ((L o).getD (i-1) 0) ((L o).getD i 0)):=rfl
    rw [←e]
    cases stpK g (L o) i with
    | false=>simp only [gG,Bool.false_and,Bool.false_eq_true,if_false]
    | true=>
      simp (disch:=omega) only [gG,add1,Bool.true_and]
      exact ih
theorem L22_0 (hpos:0<(L o).length) (lo:Nat):∀ (k i:Nat),(L o).length-i=k→i≤(L o).length→f22_L0 Qb lo (.p (eSl o)) (.ptr 0 0) (N i) σ =
    some (.p (pI (if ((L o).drop i).any (badN g)=true then 3 else if (hasI (L g.init) ((L o).getD 0 0)&&QM (stpK g (L o)) 1 ((L o).length-1))=true then 0 else 14)),σ)
  | 0,i,hk,h1=>by
    have hn:¬ ((i:Int)<((L o).length:Nat)):=by omega
    have hx0:indexAddr PP 22 (.p (eSl o)) (.p (.int .i64 0))=some (.pptr (Qu (L o)) 0):=idxL (i:=0) (by omega)
    have hld:=fun σ=>ldL (o:=o) (i:=0) (by omega) σ
    have hL:=L22_1 h0 hl he lo ((L o).length-1) 1 rfl (Nat.le_refl _)
    have hL:f22_L1 Qb lo (.p (eSl o)) (.ptr 0 0) (.p (.int .i64 1)) σ=_:=hL
    rw [f22_L0_eq Qb rfl,List.drop_of_length_le (by omega)]
    simp only [N,QP,Qp,ltF hn,gG,WA,Qe,Qf,Nat.zero_add,Nat.add_zero,Qc,List.append_nil,List.singleton_append,List.cons_append,List.nil_append,QH,Qd (off:=1) h0 rfl,hx0,QJ,hld,S62 hi,ZC,List.any_nil,Bool.false_eq_true,if_false]
    cases hasI (L g.init) ((L o).getD 0 0) with
    | false=>simp only [gG,Bool.false_and,Bool.false_eq_true,if_false]
    | true=>
      simp only [gG,Bool.true_and]
      exact hL
  | k+1,i,hk,h1=>by
    have hlt:(i:Int)<((L o).length:Nat):=by omega
    have hb:i<(L o).length:=by omega
    have ih:=L22_0 hpos lo k (i+1) (by omega) (by omega)
    have eo:(L o).drop i=(L o).getD i 0::(L o).drop (i+1):=by rw [QZ 0 hb]; exact List.drop_eq_getElem_cons hb
    rw [f22_L0_eq Qb rfl,eo,List.any_cons]
    simp (disch:=omega) only [N,QP,Qp,ltT hlt,gG,idxL,QJ,ldL,ZP,Qe,Qf,Nat.zero_add,Nat.add_zero,Qc,List.append_nil,List.singleton_append,List.cons_append,List.nil_append,Qd (off:=0) h0 rfl,Vo,S61,ZC]
    have e:badN g ((L o).getD i 0) = !inR ((L o).getD i 0) 0 (pred g.n):=rfl
    rw [e]
    cases inR ((L o).getD i 0) 0 (pred g.n) with
    | false=>simp only [gG,Bool.true_or,if_true]
    | true=>
      simp (disch:=omega) only [gG,add1,Bool.false_or]
      exact ih
end
theorem S22 {g:Gr} {o:OI} {σ:Qa} (hl:(L o).length≤1000) (hi:(L g.init).length≤1000) (he:(L g.edges).length≤10000):Qx CC 22 [.agg (eGr g),.p (eSl o)] σ=some (.p (pI (pthE g (L o)))):=by
  have g0:([Row.mix (eGr g)]:Qa)[0]?=some (.mix (eGr g)):=rfl
  refine Qn (by simp [Zx,Zg]) rfl (F22_call (r:=(.p (pI (pthE g (L o))),[.mix (eGr g)])) ?_) rfl
  rw [F22_eq]
  simp only [Zo,QB,List.length_nil,List.nil_append]
  generalize ([Row.mix (eGr g)]:Qa)=τ at *
  unfold pthE
  by_cases h1:(L o).length=0
  · have h1':((L o).length:Int)=0:=by omega
    rw [if_pos h1]
    simp only [QP,Zc,eqT h1',gG]
  · have h1':¬ ((L o).length:Int)=0:=by omega
    rw [if_neg h1]
    simp only [QP,Zc,eqF h1',gG,Zi]
    by_cases h2:(L o).length>60
    · have h2':((L o).length:Int)>60:=by omega
      rw [if_pos h2,decide_eq_true h2']
      simp only [gG]
    · have h2':¬ ((L o).length:Int)>60:=by omega
      have hL:=L22_0 g0 hl hi he (by omega) 0 _ 0 rfl (Nat.zero_le _)
      rw [List.drop_zero] at hL
      rw [if_neg h2,decide_eq_false h2']
      simp only [gG]
      exact hL
end Go.D
end
/- Chapter 22: ticks and hidden paths, in the program and in the reference. -/
section
set_option linter.unusedVariables false
set_option linter.unusedSimpArgs false
namespace Go.D
def Je (s t:Int) (e:Edg):Bool:=decide (e.f=s)&&(decide (e.t=t)&&!decide (e.a=11))
theorem S101 {σ:Qa} {r1 r2:Nat} {s t:Int} {e:Edg} (h1:σ[r1]?=some (.mix [.p (pI s)])) (h2:σ[r2]?=some (.mix [.p (pI t)])):Qx CC 101 [.agg (edgD e),.ptr r1 0,.ptr r2 0] σ=some (.p (.bool (Je s t e))):=by
  refine WC rfl rfl (F101_call (r:=(.p (.bool (Je s t e)),σ++[.mix (edgD e)])) ?_) rfl
  rw [F101_eq]
  have hx:(σ++[Row.mix (edgD e)])[σ.length]?=some (.mix (edgD e)):=QE
  have h1':(σ++[Row.mix (edgD e)])[r1]?=some (.mix [.p (pI s)]):=QV h1
  have h2':(σ++[Row.mix (edgD e)])[r2]?=some (.mix [.p (pI t)]):=QV h2
  simp only [box_edg,QB,Ug,Qe,Qf,Nat.zero_add,Nat.add_zero,Qc,List.append_nil,List.singleton_append,List.cons_append,List.nil_append,QJ,Qd (off:=0) hx rfl,Qd (off:=0) h1' rfl,Zc,Je]
  by_cases e1:e.f=s
  · simp only [eqT e1,gG,Uo,Qe,Qf,Nat.zero_add,Nat.add_zero,Qc,List.append_nil,List.singleton_append,List.cons_append,List.nil_append,QJ,Qd (off:=1) hx rfl,Qd (off:=0) h2' rfl,Zc,Bool.true_and]
    by_cases e2:e.t=t
    · simp only [eqT e2,gG,Uf,Qe,Qf,Nat.zero_add,Nat.add_zero,Qc,List.append_nil,List.singleton_append,List.cons_append,List.nil_append,QJ,Qd (off:=2) hx rfl,ZO,Bool.true_and]
    · simp only [eqF e2,gG,Bool.false_and]
  · simp only [eqF e1,gG,Bool.false_and]
def tkA (g:Gr) (s t:Int):Bool:=!(L g.edges).any (Je s t)
theorem S68 {g:Gr} {s t:Int} {σ:Qa} (he:(L g.edges).length≤10000):Qx CC 68 [.agg (eGr g),.p (pI s),.p (pI t)] σ=some (.p (.bool (tkA g s t))):=by
  refine Qn (by simp [Zx]; exact ⟨rfl,rfl⟩) rfl (F68_call (r:=(.p (.bool (tkA g s t)),[Row.mix (eGr g),Row.mix [.p (pI s)],Row.mix [.p (pI t)]])) ?_) rfl
  have g0:([Row.mix (eGr g),Row.mix [.p (pI s)],Row.mix [.p (pI t)]]:Qa)[0]?=some (.mix (eGr g)):=rfl
  have g1:([Row.mix (eGr g),Row.mix [.p (pI s)],Row.mix [.p (pI t)]]:Qa)[1]?=some (.mix [.p (pI s)]):=rfl
  have g2:([Row.mix (eGr g),Row.mix [.p (pI s)],Row.mix [.p (pI t)]]:Qa)[2]?=some (.mix [.p (pI t)]):=rfl
  rw [F68_eq]
  simp only [Zo,box_int,QB,List.length_nil,List.nil_append,List.length_cons,List.cons_append,Nat.reduceAdd]
  generalize ([Row.mix (eGr g),Row.mix [.p (pI s)],Row.mix [.p (pI t)]]:Qa)=τ at *
  have h100:Qx CC 100 [.p (eEs g.edges),.fn 101 [.ptr 1 0,.ptr 2 0]] τ=some (.p (.bool ((L g.edges).any (Je s t)))):=S100 he (by
    rintro σ0 (⟨_,hb⟩ | rfl) e
    · simp [ZV] at hb
    · exact S101 g1 g2)
  simp only [Zj,Qe,Qf,Nat.zero_add,Nat.add_zero,Qc,List.append_nil,List.singleton_append,List.cons_append,List.nil_append,Zh,Qd (off:=2) g0 rfl,h100,QB,ZC,tkA]
def bAt (x:Ax) (s:Int):Int:=(L x.b).getD s.toNat 0
def skp (x:Ax) (p:List Int) (i:Nat):Bool:=decide ((i:Int)>0)&&(decide (bAt x (p.getD i 0)=bAt x (p.getD (i-1) 0))&&tkA x.g (p.getD (i-1) 0) (p.getD i 0))
def hidU (x:Ax) (p:List Int):Nat→List Int
  | 0=>[]
  | i+1=>if skp x p i=true then hidU x p i else hidU x p i++[bAt x (p.getD i 0)]
theorem hidU_len (x:Ax) (p:List Int):∀ i,(hidU x p i).length≤i
  | 0=>Nat.le_refl _
  | i+1=>by
    have:=hidU_len x p i
    unfold hidU
    split
    · omega
    · simp; omega
def InB (x:Ax) (p:List Int):Prop:=∀ i,i<p.length→0≤p.getD i 0∧(p.getD i 0).toNat<(L x.b).length
theorem idxi {o:OI} {n:Int} (h0:0≤n) (h:n.toNat<(L o).length):indexAddr PP 22 (.p (eSl o)) (.p (.int .i64 n))=some (.pptr (Qu (L o)) n.toNat):=by
  have e:n=((n.toNat:Nat):Int):=by omega
  rw [e]
  exact idxL (by simpa using h)
section
variable {x : Ax} {o : OI} (hs : XSm x) (hp : (L o).length ≤ 1000) (hin : InB x (L o))
include hs hp hin
theorem L31:∀ (k i:Nat) (y:DV) (σ:Qa),(L o).length-i=k→i≤(L o).length→σ[0]?=some (.mix (eAx x))→Out σ 1 1 (hidU x (L o) i).length (Qu (hidU x (L o) i)) y→
    ∃ y' σ',f31_L0 Qb 0 (.p (eSl o)) (.ptr 0 0) y (.p (eSl o)) (N (L o).length) (N i) σ=some (.tuple [y',.p (.int .i64 0)],σ')∧Out σ' 1 1 (hidU x (L o) (L o).length).length (Qu (hidU x (L o) (L o).length)) y'
  | 0,i,y,σ,hk,hi,h0,ho=>by
    have:i=(L o).length:=by omega
    subst this
    have hn:¬ (((L o).length:Nat):Int)<((L o).length:Nat):=by omega
    refine ⟨y,σ,?_,ho⟩
    rw [f31_L0_eq Qb rfl]
    simp only [N,Qp,ltF hn,gG]
  | k+1,i,y,σ,hk,hi,h0,ho=>by
    have hil:i<(L o).length:=by omega
    have hlt:(i:Int)<((L o).length:Nat):=by omega
    obtain ⟨a0,a1⟩:=hin i hil
    have hul:=hidU_len x (L o) i
    have app:skp x (L o) i=false→∃ y' σ',append PP 0 false 22 22 y (.p (.sl true 1 [pI (bAt x ((L o).getD i 0))])) σ=some (y',σ')∧
        ∃ y'' σ'',f31_L0 Qb 0 (.p (eSl o)) (.ptr 0 0) y' (.p (eSl o)) (N (L o).length) (N (i+1)) σ'=some (.tuple [y'',.p (.int .i64 0)],σ'')∧Out σ'' 1 1 (hidU x (L o) (L o).length).length (Qu (hidU x (L o) (L o).length)) y'':=by
      intro hsk
      have hlen:1≤σ.length:=by have:=QW h0; omega
      obtain ⟨y',σ',e1,o1,t1⟩:=ho.push22 (v:=pI (bAt x ((L o).getD i 0))) (by omega) hlen
      have e1:=app_lo ho e1
      refine ⟨y',σ',e1,?_⟩
      have e2:hidU x (L o) (i+1)=hidU x (L o) i++[bAt x ((L o).getD i 0)]:=by rw [hidU,hsk]; rfl
      have o1:Out σ' 1 1 (hidU x (L o) (i+1)).length (Qu (hidU x (L o) (i+1))) y':=by
        rw [e2,List.length_append]
        have e3:Qu (hidU x (L o) i++[bAt x ((L o).getD i 0)])=Qu (hidU x (L o) i)++[pI (bAt x ((L o).getD i 0))]:=by simp [Qu]
        rw [e3]
        exact o1
      have h0':σ'[0]?=some (.mix (eAx x)):=t1.1 0 _ h0 fun r ver sz n cs e=>by
        rcases ho.2 with ⟨_,hz⟩ | ⟨_,r2,ver2,e3,_,e4⟩
        · rw [hz] at e; exact absurd e (by simp)
        · rw [e3] at e; injection e with e5; omega
      exact L31 k (i+1) y' σ' (by omega) (by omega) h0' o1
    have skip:skp x (L o) i=true→∃ y'' σ'',f31_L0 Qb 0 (.p (eSl o)) (.ptr 0 0) y (.p (eSl o)) (N (L o).length) (N (i+1)) σ=some (.tuple [y'',.p (.int .i64 0)],σ'')∧Out σ'' 1 1 (hidU x (L o) (L o).length).length (Qu (hidU x (L o) (L o).length)) y'':=by
      intro hsk
      have e2:hidU x (L o) (i+1)=hidU x (L o) i:=by rw [hidU,hsk]; rfl
      exact L31 k (i+1) y σ (by omega) (by omega) h0 (by rw [e2]; exact ho)
    have hbi:∀ s:Int,0≤s→s.toNat<(L x.b).length→∀ σ,ZG (.pptr (Qu (L x.b)) s.toNat) σ=some (.p (.int .i64 (bAt x s))):=fun s h1 h2 σ=>ldL h2 σ
    rw [f31_L0_eq Qb rfl]
    by_cases hi0:(i:Int)>0
    · obtain ⟨b0,b1⟩:=hin (i-1) (by omega)
      simp (disch:=omega) only [N,Qp,ltT hlt,gG,idxL hil,QJ,ldL hil,Zi,decide_eq_true hi0,We,Qe,Qf,Nat.zero_add,Nat.add_zero,Qc,List.append_nil,List.singleton_append,List.cons_append,List.nil_append,ax_b h0,idxi a0 a1,hbi _ a0 a1,sub1,idxL,ldL,idxi b0 b1,hbi _ b0 b1,Zc]
      by_cases e1:bAt x ((L o).getD i 0)=bAt x ((L o).getD (i-1) 0)
      · simp (disch:=omega) only [eqT e1,gG,Wj,Qe,Qf,Nat.zero_add,Nat.add_zero,Qc,List.append_nil,List.singleton_append,List.cons_append,List.nil_append,ax_g h0,sub1,idxL,QJ,ldL,S68 hs.e]
        cases e2:tkA x.g ((L o).getD (i-1) 0) ((L o).getD i 0) with
        | true=>
          have hsk:skp x (L o) i=true:=by rw [skp,decide_eq_true hi0,eqT e1,e2]; rfl
          obtain ⟨y'',σ'',q1,q2⟩:=skip hsk
          refine ⟨y'',σ'',?_,q2⟩
          simp (disch:=omega) only [gG,f31_J0_eq,add1]
          exact q1
        | false=>
          have hsk:skp x (L o) i=false:=by rw [skp,e2,Bool.and_false,Bool.and_false]
          obtain ⟨y',σ',q0,y'',σ'',q1,q2⟩:=app hsk
          refine ⟨y'',σ'',?_,q2⟩
          simp (disch:=omega) only [gG,We,Qe,Qf,Nat.zero_add,Nat.add_zero,Qc,List.append_nil,List.singleton_append,List.cons_append,List.nil_append,ax_b h0,idxi a0 a1,QJ,hbi _ a0 a1,VI,q0,f31_J0_eq,add1]
          exact q1
      · have hsk:skp x (L o) i=false:=by rw [skp,eqF e1,Bool.false_and,Bool.and_false]
        obtain ⟨y',σ',q0,y'',σ'',q1,q2⟩:=app hsk
        refine ⟨y'',σ'',?_,q2⟩
        simp (disch:=omega) only [eqF e1,gG,We,Qe,Qf,Nat.zero_add,Nat.add_zero,Qc,List.append_nil,List.singleton_append,List.cons_append,List.nil_append,ax_b h0,idxi a0 a1,QJ,hbi _ a0 a1,VI,q0,f31_J0_eq,add1]
        exact q1
    · have hsk:skp x (L o) i=false:=by rw [skp,decide_eq_false hi0,Bool.false_and]
      obtain ⟨y',σ',q0,y'',σ'',q1,q2⟩:=app hsk
      refine ⟨y'',σ'',?_,q2⟩
      simp (disch:=omega) only [N,Qp,ltT hlt,gG,idxL hil,QJ,ldL hil,Zi,decide_eq_false hi0,We,Qe,Qf,Nat.zero_add,Nat.add_zero,Qc,List.append_nil,List.singleton_append,List.cons_append,List.nil_append,ax_b h0,idxi a0 a1,hbi _ a0 a1,VI,q0,f31_J0_eq,add1]
      exact q1
where
  app_lo {σ:Qa} {A:List Int} {y y1:DV} {σ1:Qa} {v:DV} (hO:Out σ 1 1 A.length (Qu A) y) (h:append PP 1 false 22 22 y v σ=some (y1,σ1)):append PP 0 false 22 22 y v σ=some (y1,σ1):=by
    rw [←h]
    rcases hO.2 with ⟨_,rfl⟩ | ⟨_,r,ver,rfl,_,h5⟩
    · simp only [append]
    · simp only [append,Ux,h5,Nat.zero_le]
end
def oI (l:List Int):OI:=if l=[] then none else some l
theorem L_oI (l:List Int):L (oI l)=l:=by
  unfold oI
  split
  · rename_i h; rw [h]; rfl
  · rfl
theorem thaw_oI {σ σ':Qa} {lo:Nat} {l:List Int} {y:DV} (m:Nat) (h:Out σ lo 1 l.length (Qu l) y):thaw m σ' y=some (.p (eSl (oI l))):=by
  rcases h.2 with ⟨e,rfl⟩ | ⟨e,r,ver,rfl,_,_⟩
  · have:l=[]:=List.length_eq_zero_iff.1 e
    subst this; rfl
  · have:l≠[]:=fun h=>e (by rw [h]; rfl)
    rw [oI,if_neg this]
    simp [thaw,Us,VB,Zr,eSl]
theorem inB_of {x:Ax} {p:List Int} (h1:extE x=0) (h2:pthE x.g p=0):InB x p:=by
  have hg:isG x.g=true:=by
    cases hg:isG x.g with
    | true=>rfl
    | false=>rw [extE,hg] at h1; simp at h1
  rw [extE,if_pos hg] at h1
  have hl:lenX x=true:=by
    cases hl:lenX x with
    | true=>rfl
    | false=>rw [hl] at h1; simp at h1
  have hl:=((extE_ok x).1 hl).1
  have hn:inR x.g.n 0 400=true:=by
    simp only [isG,Bool.and_eq_true] at hg
    exact hg.1.1.1
  have hn:0≤x.g.n∧x.g.n≤400:=by simpa [inR] using hn
  have hb:p.any (badN x.g)=false:=by
    unfold pthE at h2
    split at h2
    · exact absurd h2 (by decide)
    · split at h2
      · exact absurd h2 (by decide)
      · split at h2
        · exact absurd h2 (by decide)
        · rename_i h; simpa using h
  intro i hi
  rw [List.any_eq_false] at hb
  have:=hb (p.getD i 0) (by rw [QZ 0 hi]; exact List.getElem_mem hi)
  have hp:pred x.g.n=x.g.n-1:=QL (by omega) (by omega)
  simp only [badN,inR,hp,Bool.not_eq_true,Bool.not_eq_false',Bool.and_eq_true,decide_eq_true_eq] at this
  omega
def resH (x:Ax) (p:List Int):DV:=if extE x=0 then (if pthE x.g p=0 then .tuple [.p (eSl (oI (hidU x p p.length))),.p (pI 0)] else .tuple [.p .nilsl,.p (pI (pthE x.g p))]) else .tuple [.p .nilsl,.p (pI (extE x))]
theorem S31 {x:Ax} {o:OI} {σ:Qa} (hs:XSm x) (hp:(L o).length≤1000):Qx CC 31 [.agg (eAx x),.p (eSl o)] σ=some (resH x (L o)):=by
  have g0:([Row.mix (eAx x)]:Qa)[0]?=some (.mix (eAx x)):=rfl
  have h67:=fun σ=>S67 (x:=x) (σ:=σ) hs
  have h54:=fun σ=>S54 (g:=x.g) (o:=o) (σ:=σ) hp hs.i hs.e
  unfold resH
  by_cases h1:extE x=0
  · rw [if_pos h1]
    by_cases h2:pthE x.g (L o)=0
    · rw [if_pos h2]
      obtain ⟨y,σ',e1,o1⟩:=L31 hs hp (inB_of h1 h2) _ 0 (.p .nilsl) [Row.mix (eAx x)] (Nat.sub_zero _) (Nat.zero_le _) g0 Out.zero
      refine Qn (by simp [Vp,Zg]) rfl (F31_call (r:=(.tuple [y,.p (.int .i64 0)],σ')) ?_) ?_
      · have e1:f31_L0 Qb 0 (.p (eSl o)) (.ptr 0 0) (.p .nilsl) (.p (eSl o)) (.p (.int .i64 ((L o).length:Nat))) (.p (.int .i64 0)) [Row.mix (eAx x)]=_:=e1
        rw [F31_eq]
        simp only [Uc,QB,List.length_nil,List.nil_append,VJ g0,Qe,Qf,Nat.zero_add,Nat.add_zero,Qc,List.append_nil,List.singleton_append,List.cons_append,List.nil_append,h67,ZO,eqT h1,gG,Wj,ax_g g0,h54,eqT h2,QP,e1]
      · show (mapO (Zw 0 σ') [y,.p (.int .i64 0)]).map DV.tuple=_
        have h3:Zw 0 σ' y=some (.p (eSl (oI (hidU x (L o) (L o).length)))):=by
          have:=thaw_oI (σ':=σ') 0 o1
          rcases o1.2 with ⟨_,rfl⟩ | ⟨_,r,ver,rfl,_,_⟩ <;> exact this
        rw [mapO,h3]
        rfl
    · rw [if_neg h2]
      refine Qn (by simp [Vp,Zg]) rfl (F31_call (r:=(.tuple [.p .nilsl,.p (pI (pthE x.g (L o)))],[Row.mix (eAx x)])) ?_) rfl
      rw [F31_eq]
      simp only [Uc,QB,List.length_nil,List.nil_append,VJ g0,Qe,Qf,Nat.zero_add,Nat.add_zero,Qc,List.append_nil,List.singleton_append,List.cons_append,List.nil_append,h67,ZO,eqT h1,gG,Wj,ax_g g0,h54,eqF h2]
  · rw [if_neg h1]
    refine Qn (by simp [Vp,Zg]) rfl (F31_call (r:=(.tuple [.p .nilsl,.p (pI (extE x))],[Row.mix (eAx x)])) ?_) rfl
    rw [F31_eq]
    simp only [Uc,QB,List.length_nil,List.nil_append,VJ g0,Qe,Qf,Nat.zero_add,Nat.add_zero,Qc,List.append_nil,List.singleton_append,List.cons_append,List.nil_append,h67,ZO,eqF h1,gG]
end Go.D
end
/- Equations of functions 5, 9, printed by gen.py. -/
section
set_option linter.unusedVariables false
set_option maxRecDepth 10000
namespace Go.D
open Go.Proofs
noncomputable section
variable (G:Qh) (lo:Nat) {σ:Qa} {r:DV×Qa}
open _root_.Go.D.Code (fstC sndC)
open _root_.Go.D.Ann (left right)
def c9_0:Code:=Qw Tryz.f9
def a9_0:Ann:=(pol 9).ann
def F9 (σ:Qa):RS:=
 Qo G PP (pol 9) CC lo c9_0 a9_0 (zn 118 []) σ (finR PP Tryz.f9.results.toList)
theorem F9_eq (G:Qh) (lo:Nat) (σ:Qa):F9 G lo σ =
 (Qi CC (DV.fn 46 []) [] σ).bind fun U=>
 (Qi CC (DV.fn 47 []) [] σ).bind fun O=>
 (Qi CC (DV.fn 12 []) [U,O] σ).bind fun R=>
 (Ql R 0).bind fun av=>
 (Ql R 1).bind fun L=>
 (Qz PP 33).bind fun z1=>
 (store PP lo 33 (DV.ptr (List.length σ) 0) av (σ++[Row.mix z1])).bind fun σ1=>
 (Qi CC (DV.fn 46 []) [] σ1).bind fun o=>
 (Qi CC (DV.fn 47 []) [] σ1).bind fun u=>
 (buildSlice PP none 22 4 [(0,I0),(1,I1),(2,I0),(3,I1)] σ1).bind fun r24_2=>
 (Qi CC (DV.fn 15 []) [o,u,r24_2.1] r24_2.2).bind fun A=>
 (Ql A 0).bind fun ah=>
 (Ql A 1).bind fun W=>
 (Qg CC lo (DV.fn 48 []) [] r24_2.2).bind fun r28_3=>
 (Qz PP 74).bind fun z5=>
 (store PP lo 74 (DV.ptr (List.length r28_3.2) 0) r28_3.1 (r28_3.2++[Row.mix z5])).bind fun σ4=>
 (fieldAddr PP 74 (DV.ptr (List.length r28_3.2) 0) 1).bind fun af=>
 (load PP 72 af σ4).bind fun ak=>
 (fieldAddr PP 74 (DV.ptr (List.length r28_3.2) 0) 1).bind fun E=>
 (load PP 72 E σ4).bind fun H=>
 (indexAddr PP 72 H I0).bind fun ae=>
 (load PP 26 ae σ4).bind fun X=>
 (ZY PP 26 X none (some I1) none).bind fun aq=>
 (indexAddr PP 72 ak I0).bind fun aj=>
 (store PP lo 26 aj aq σ4).bind fun σ5=>
 (Qi CC (DV.fn 46 []) [] σ5).bind fun aa=>
 (load PP 74 (DV.ptr (List.length r28_3.2) 0) σ5).bind fun J=>
 (Qi CC (DV.fn 39 []) [aa,J] σ5).bind fun C=>
 (Ql C 0).bind fun x=>
 (Ql C 1).bind fun B=>
 (Ql C 2).bind fun V=>
 (Qi CC (DV.fn 46 []) [] σ5).bind fun P=>
 (Qi CC (DV.fn 49 []) [] σ5).bind fun y=>
 (buildSlice PP none 22 2 [(0,I0),(1,I1)] σ5).bind fun r47_6=>
 (Qi CC (DV.fn 27 []) [P,y,r47_6.1] r47_6.2).bind fun M=>
 (Ql M 0).bind fun ba=>
 (Ql M 1).bind fun aw=>
 (Qi CC (DV.fn 46 []) [] r47_6.2).bind fun Y=>
 (Qi CC (DV.fn 49 []) [] r47_6.2).bind fun S=>
 (Qi CC (DV.fn 25 []) [Y,S] r47_6.2).bind fun T=>
 (Ql T 0).bind fun am=>
 (Ql T 1).bind fun be=>
 (Qz PP 33).bind fun z11=>
 (store PP lo 33 (DV.ptr (List.length r47_6.2) 0) am (r47_6.2++[Row.mix z11])).bind fun σ7=>
 (binOp PP .neq 34 L I0).bind fun ao=>
 G _ ao false (some (W,σ7)) σ7 fun az σ8=>
 Gp G ao false (binOp PP .neq 34 az I0) σ8 fun bk σ9=>
 (Qt ao (DV.p (PV.bool true)) bk).bind fun bv=>
 G _ bv false (some (V,σ9)) σ9 fun bi σ10=>
 Gp G bv false (binOp PP .neq 34 bi (DV.p (PV.int IntKind.i64 (31)))) σ10 fun br σ11=>
 (Qt bv (DV.p (PV.bool true)) br).bind fun bf=>
 G _ bf false (some (aw,σ11)) σ11 fun cb σ12=>
 Gp G bf false (binOp PP .neq 34 cb I0) σ12 fun dd σ13=>
 (Qt bf (DV.p (PV.bool true)) dd).bind fun bt=>
 G _ bt false (some (be,σ13)) σ13 fun cv σ14=>
 Gp G bt false (binOp PP .neq 34 cv I0) σ14 fun c9 σ15=>
 (Qt bt (DV.p (PV.bool true)) c9).bind fun N=>
 Qj N
 (
 some ((DV.p (PV.bool false)),σ15)
 )
 (
 (load PP 33 (DV.ptr (List.length r47_6.2) 0) σ15).bind fun cd=>
 (buildSlice PP none 22 3 [(0,I0),(1,(DV.p (PV.int IntKind.i64 (2)))),(2,I1)] σ15).bind fun r77_16=>
 (Qi CC (DV.fn 31 []) [cd,r77_16.1] r77_16.2).bind fun c8=>
 (Ql c8 0).bind fun bz=>
 (Ql c8 1).bind fun ca=>
 (fieldAddr PP 33 (DV.ptr (List.length σ) 0) 1).bind fun cq=>
 (load PP 22 cq r77_16.2).bind fun n=>
 (buildSlice PP none 22 5 [(0,I0),(1,I0),(2,I0),(3,I1),(4,I1)] r77_16.2).bind fun r83_17=>
 (Qi CC (DV.fn 34 []) [n,r83_17.1] r83_17.2).bind fun bg=>
 Gp G bg true (fieldAddr PP 33 (DV.ptr (List.length σ) 0) 2) r83_17.2 fun bl σ18=>
 Gp G bg true (load PP 22 bl σ18) σ18 fun bn σ19=>
 G _ bg true ((buildSlice PP none 22 5 [(0,I0),(1,I1),(2,(DV.p (PV.int IntKind.i64 (2)))),(3,I1),(4,(DV.p (PV.int IntKind.i64 (2))))] σ19).bind fun r=>some (r.1,r.2)) σ19 fun cr σ20=>
 Gp G bg true (Qi CC (DV.fn 34 []) [bn,cr] σ20) σ20 fun ch σ21=>
 (Qt bg ch (DV.p (PV.bool false))).bind fun cn=>
 G _ cn true (some (ah,σ21)) σ21 fun cg σ22=>
 G _ cn true ((buildSlice PP none 22 4 [(0,I0),(1,(DV.p (PV.int IntKind.i64 (3)))),(2,I1),(3,(DV.p (PV.int IntKind.i64 (4))))] σ22).bind fun r=>some (r.1,r.2)) σ22 fun c7 σ23=>
 Gp G cn true (Qi CC (DV.fn 34 []) [cg,c7] σ23) σ23 fun ci σ24=>
 (Qt cn ci (DV.p (PV.bool false))).bind fun cj=>
 G _ cj true (some (x,σ24)) σ24 fun bu σ25=>
 Gp G cj true (binOp PP .eql 3 bu I0) σ25 fun dj σ26=>
 (Qt cj dj (DV.p (PV.bool false))).bind fun db=>
 G _ db true (some (B,σ26)) σ26 fun df σ27=>
 Gp G db true (binOp PP .eql 3 df I1) σ27 fun ee σ28=>
 (Qt db ee (DV.p (PV.bool false))).bind fun dy=>
 G _ dy true (some (ba,σ28)) σ28 fun dp σ29=>
 G _ dy true ((buildSlice PP none 22 4 [(0,I0),(1,(DV.p (PV.int IntKind.i64 (2)))),(2,I1),(3,(DV.p (PV.int IntKind.i64 (3))))] σ29).bind fun r=>some (r.1,r.2)) σ29 fun ef σ30=>
 Gp G dy true (Qi CC (DV.fn 34 []) [dp,ef] σ30) σ30 fun dk σ31=>
 (Qt dy dk (DV.p (PV.bool false))).bind fun dh=>
 G _ dh true (some (ca,σ31)) σ31 fun dg σ32=>
 Gp G dh true (binOp PP .eql 34 dg I0) σ32 fun dr σ33=>
 (Qt dh dr (DV.p (PV.bool false))).bind fun ai=>
 G _ ai true (some (bz,σ33)) σ33 fun eg σ34=>
 G _ ai true ((buildSlice PP none 22 1 [(0,I0)] σ34).bind fun r=>some (r.1,r.2)) σ34 fun dz σ35=>
 Gp G ai true (Qi CC (DV.fn 34 []) [eg,dz] σ35) σ35 fun cp σ36=>
 (Qt ai cp (DV.p (PV.bool false))).bind fun ct=>
 some (ct,σ36)
 ):=by kernel_rfl
theorem F9_call {lo:Nat} (h:F9 Qb lo σ=some r):CC lo 9 [] σ=some r:=
 callL_run Tryz.func9 (by decide +kernel) rfl (by decide +kernel) h
end
end Go.D
end
/- AuxiliaryHides: what the law answers, if awake answers true. -/
section
set_option linter.unusedVariables false
set_option linter.unusedSimpArgs false
namespace Go.D
section
variable {x : Ax} {o : OI} (hs : XSm x) (hp : (L o).length ≤ 1000) (hin : InB x (L o))
include hs hp hin
end
def ownX (x:Ax):Ax:=⟨ownG x.g,some (L x.b),some (L x.a)⟩
theorem xsm_own {x:Ax} (h:XSm x):XSm (ownX x):=⟨h.i,h.e,h.b,h.a⟩
theorem bld33c (a b c d e:PV):build PP 33 [(0,.agg [.p a,.p b,.p c]),(1,.p d),(2,.p e)]=some (.agg [.p a,.p b,.p c,.p d,.p e]):=Eq.trans (by kernel_rfl) rfl
theorem Ww (P:Program) (t:TypeId) (r off:Nat) (σ:Qa):Vt P t (.ptr r off) σ=load P t (.ptr r off) σ:=rfl
theorem thaw_p (n:Nat) (σ:Qa) (v:PV):thaw n σ (.p v)=some (.p (Zp v)):=rfl
theorem st33 (a b c d e:PV) (a' b' c' d' e':DV) (m:Row):store PP 0 33 (.ptr 1 0) (.agg [.p a,.p b,.p c,.p d,.p e]) [m,.mix [a',b',c',d',e']]=some [m,.mix [.p a,.p b,.p c,.p d,.p e]]:=Eq.trans (by kernel_rfl) rfl
theorem S32 {x:Ax} {σ:Qa} (h:XSm x):Qx CC 32 [.agg (eAx x)] σ=some (.agg (eAx (ownX x))):=by
  have hst:store PP 0 33 (.ptr 1 0) (.agg (eAx (ownX x))) [Row.mix (eAx x),Row.mix [.p (pI 0),.p .nilsl,.p .nilsl,.p .nilsl,.p .nilsl]]=some [Row.mix (eAx x),Row.mix (eAx (ownX x))]:=by
    exact st33 _ _ _ _ _ _ _ _ _ _ _
  have g0:([Row.mix (eAx x),Row.mix [.p (pI 0),.p .nilsl,.p .nilsl,.p .nilsl,.p .nilsl]]:Qa)[0]?=some (.mix (eAx x)):=rfl
  have g1:([Row.mix (eAx x),Row.mix (eAx (ownX x))]:Qa)[1]?=some (.mix (eAx (ownX x))):=rfl
  have hcv:Vt PP 33 (.ptr 1 0) [Row.mix (eAx x),Row.mix (eAx (ownX x))]=some (.agg (eAx (ownX x))):=by
    rw [Ww]
    exact VJ g1
  have hth:Zf 0 [Row.mix (eAx x),Row.mix (eAx (ownX x))] (.agg (eAx (ownX x)))=some (.agg (eAx (ownX x))):=by
    have h1:∀ (n:Nat) (σ:Qa) (o:OI),thaw n σ (.p (eSl o))=some (.p (eSl o)):=fun n σ o=>(thaw_p n σ _).trans (by rw [ZE])
    have h2:∀ (n:Nat) (σ:Qa) (o:Option (List Edg)),thaw n σ (.p (eEs o))=some (.p (eEs o)):=fun n σ o=>(thaw_p n σ _).trans (by rw [WQ])
    have h4:∀ (n:Nat) (σ:Qa) (v:Int),thaw n σ (.p (pI v))=some (.p (pI v)):=fun n σ v=>rfl
    show (mapO (thaw 0 [Row.mix (eAx x),Row.mix (eAx (ownX x))]) (eAx (ownX x))).map DV.agg=_
    simp only [eAx,mapO,h1,h2,h4,Option.map_some]
  refine Qn (by simp [Vp]) rfl (F32_call (r:=(.agg (eAx (ownX x)),[Row.mix (eAx x),Row.mix (eAx (ownX x))])) ?_) hth
  have hb:build PP 33 [(0,.agg (eGr (ownG x.g))),(1,.p (eSl (some (L x.b)))),(2,.p (eSl (some (L x.a))))]=some (.agg (eAx (ownX x))):=bld33c _ _ _ _ _
  rw [F32_eq]
  simp only [Uc,Um,gG,List.length_nil,List.nil_append,List.length_cons,List.cons_append,Nat.reduceAdd,Wj,We,WW,Qe,Qf,Nat.zero_add,Nat.add_zero,Qc,List.append_nil,List.singleton_append,List.cons_append,List.nil_append,ax_g g0,ax_b g0,ax_a g0,S13 h.i h.e,S16 h.b,S16 h.a,hb,hst,hcv]
end Go.D
end
/- Chapter 22: the moves of a history variable. -/
section
set_option linter.unusedVariables false
set_option linter.unusedSimpArgs false
namespace Go.D.StS
open Go.D.Srt
structure Hs where
  s:OI
  x:Option (List OI)
def eLs:Option (List OI)→PV
  | none=>.nilsl
  | some l=>.sl false l.length (l.map eSl)
def eHs (h:Hs):List DV:=[.p (eSl h.s),.p (eLs h.x)]
theorem u26:PP.underlying 26=some (.slice 22):=Eq.trans (by kernel_rfl) rfl
theorem Ut (o:Option (List OI)) (σ:Qa):len PP 26 (.p (eLs o)) σ=some (.p (.int .i64 ((L o).length:Nat))):=by cases o <;> simp [len,u26,eLs]
theorem Uz {o:Option (List OI)} {i:Nat} (h:i<(L o).length):indexAddr PP 26 (.p (eLs o)) (.p (.int .i64 (i:Nat)))=some (.pptr ((L o).map eSl) i):=by
  cases o with
  | none=>exact absurd h (by simp [L])
  | some l=>
    have h2:(0:Int)≤(i:Int)∧(i:Int)<(l.length:Nat):=by
      simp only [L,Option.getD_some] at h; omega
    simp [indexAddr,u26,s22',eLs,h2,L]
theorem Wi (x:DV) (σ:Qa):load PP 26 x σ=ZG x σ:=Eq.trans (by kernel_rfl) rfl
theorem Wt (x:DV):fieldAddr PP 28 x 0=QO x 0:=Eq.trans (by kernel_rfl) rfl
theorem Wk (x:DV):fieldAddr PP 28 x 1=QO x 1:=Eq.trans (by kernel_rfl) rfl
theorem load28 (x:DV) (σ:Qa):load PP 28 x σ=(Wh σ 2 x).map .agg:=Eq.trans (by kernel_rfl) rfl
theorem zero28:Qz PP 28=some [.p .nilsl,.p .nilsl]:=Eq.trans (by kernel_rfl) rfl
theorem ldLs {l:List OI} {i:Nat} (h:i<l.length) (σ:Qa):ZG (.pptr (l.map eSl) i) σ=some (.p (eSl (l.getD i none))):=by
  refine WE ?_ σ
  rw [List.getElem?_map,List.getD_eq_getElem?_getD,List.getElem?_eq_getElem h]
  rfl
def frN (l:List Edg) (s:Int) (i:Nat):List Nat:=(List.range i).filter fun j=>decide ((gE l j).f=s)
theorem frN_succ (l:List Edg) (s:Int) (i:Nat):frN l s (i+1)=if (gE l i).f=s then frN l s i++[i] else frN l s i:=by
  unfold frN
  rw [List.range_succ,List.filter_append]
  by_cases h:(gE l i).f=s
  · rw [if_pos h,List.filter_cons_of_pos (by simpa using h)]; rfl
  · rw [if_neg h,List.filter_cons_of_neg (by simpa using h)]; simp
def intL (l:List Nat):List Int:=l.map fun (j:Nat)=>(j:Int)
theorem intL_len (l:List Nat):(intL l).length=l.length:=by simp [intL]
theorem frN_len (l:List Edg) (s:Int) (i:Nat):(frN l s i).length≤i:=by
  unfold frN
  exact Nat.le_trans (List.length_filter_le _ _) (by simp)
theorem stN69 {σ:Qa} (e:Edg) {lo:Nat} (hlo:lo≤σ.length):store PP lo 69 (.ptr σ.length 0) (.agg (edgD e)) (σ++[.mix [.p (pI 0),.p (pI 0),.p (pI 0)]])=some (σ++[.mix (edgD e)]):=by
  have e1:(DV.agg (edgD e)).cells=edgD e:=rfl
  have e2:(σ++[Row.mix [.p (pI 0),.p (pI 0),.p (pI 0)]])[σ.length]?=some (.mix [.p (pI 0),.p (pI 0),.p (pI 0)]):=QE
  have e3:QS [DV.p (pI 0),.p (pI 0),.p (pI 0)] 0 (edgD e)=edgD e:=rfl
  have e4:(edgD e).length=3:=rfl
  have e5:(edgD e).all DV.one=true:=rfl
  simp only [store,s69,e1,e4,if_true,Zs,hlo,e2,e5,e3]
  rw [List.set_append_right _ _ (Nat.le_refl _),Nat.sub_self]
  rfl
theorem ld69 {l:List Edg} {i:Nat} (h:i<l.length) (σ:Qa):(Wh σ 3 (.pptr (Ze l) (i*3))).map DV.agg=some (.agg (edgD (gE l i))):=by
  rw [load69_edgs h,Vh h]; rfl
section
variable {o : OE} {s : Int}
theorem L84 (hl:(L o).length≤1000):∀ (d i:Nat) (y:DV) (σ:Qa),(L o).length-i=d→i≤(L o).length→Out σ 0 1 (frN (L o) s i).length (Qu (intL (frN (L o) s i))) y→
    ∃ y' σ',f84_L0 Qb 0 (.p (pI s)) y (.p (eEs o)) (N (L o).length) (N i) σ=some (y',σ')∧Out σ' 0 1 (frN (L o) s (L o).length).length (Qu (intL (frN (L o) s (L o).length))) y'
  | 0,i,y,σ,hd,hi,ho=>by
    have e:i=(L o).length:=by omega
    subst e
    refine ⟨y,σ,?_,ho⟩
    rw [f84_L0_eq Qb rfl]
    simp (disch:=omega) only [N,Qp,ltF,gG]
  | d+1,i,y,σ,hd,hi,ho=>by
    have hil:i<(L o).length:=by omega
    have hsn:=stN69 (lo:=0) (σ:=σ) (gE (L o) i) (Nat.zero_le _)
    have hB:(σ++[Row.mix (edgD (gE (L o) i))])[σ.length]?=some (.mix (edgD (gE (L o) i))):=QE
    have ho1:=Out.snocM ho (.mix (edgD (gE (L o) i)))
    have hfl:=frN_len (L o) s i
    by_cases hf:(gE (L o) i).f=s
    · obtain ⟨y1,σ1,p1,p2,p3,p4⟩:=Out.pushG (lo:=0) (vs:=[pI (i:Nat)]) Uy u22 s3 VH Ur rfl (by decide) (by decide) (by decide) rfl ho1 (by omega) (Nat.zero_le _) (Nat.zero_le _)
      have e1:frN (L o) s (i+1)=frN (L o) s i++[i]:=by rw [frN_succ,if_pos hf]
      have e2:Qu (intL (frN (L o) s i))++[pI (i:Nat)]=Qu (intL (frN (L o) s (i+1))):=by rw [e1]; simp [intL,Qu]
      have e3:(frN (L o) s i).length+1=(frN (L o) s (i+1)).length:=by rw [e1]; simp
      rw [e2,e3] at p2
      obtain ⟨y',σ',r1,r2⟩:=L84 hl d (i+1) y1 σ1 (by omega) (by omega) p2
      refine ⟨y',σ',?_,r2⟩
      rw [←r1,f84_L0_eq Qb rfl]
      simp (disch:=omega) only [N,Qp,ltT,gG,Uj,load69,ld69,UA,hsn,Ug,Qe,Qf,Nat.zero_add,Nat.add_zero,Qc,List.append_nil,List.singleton_append,List.cons_append,List.nil_append,QJ,Qd (off:=0) hB (v:=.p (.int .i64 (gE (L o) i).f)) rfl,Zc,eqT hf,VI,p1,f84_J0_eq,add1]
    · have e1:frN (L o) s (i+1)=frN (L o) s i:=by rw [frN_succ,if_neg hf]
      obtain ⟨y',σ',r1,r2⟩:=L84 hl d (i+1) y _ (by omega) (by omega) (by rw [e1]; exact ho1)
      refine ⟨y',σ',?_,r2⟩
      rw [←r1,f84_L0_eq Qb rfl]
      simp (disch:=omega) only [N,Qp,ltT,gG,Uj,load69,ld69,UA,hsn,Ug,Qe,Qf,Nat.zero_add,Nat.add_zero,Qc,List.append_nil,List.singleton_append,List.cons_append,List.nil_append,QJ,Qd (off:=0) hB (v:=.p (.int .i64 (gE (L o) i).f)) rfl,Zc,eqF hf,f84_J0_eq,add1]
end
theorem twAll_oI {σ σ':Qa} {lo m:Nat} {l:List Int} {y:DV} (h:Out σ lo 1 l.length (Qu l) y):Zf m σ' y=some (.p (eSl (oI l))):=by
  have h2:Zf m σ y=some (.p (eSl (oI l))):=by
    rw [Out.twAll h m,Zr]
    unfold oI
    by_cases e:l=[]
    · subst e; rfl
    · rw [if_neg e,if_neg (fun h=>e (List.length_eq_zero_iff.1 h))]; rfl
  rcases h.2 with ⟨_,rfl⟩ | ⟨_,r,ver,rfl,_,_⟩
  · exact h2
  · exact h2
theorem S84 {g:Gr} {s:Int} {σ:Qa} (hl:(L g.edges).length≤1000):Qx CC 84 [.agg (eGr g),.p (pI s)] σ=some (.p (eSl (oI (intL (frN (L g.edges) s (L g.edges).length))))):=by
  have g0:([Row.mix (eGr g)]:Qa)[0]?=some (.mix (eGr g)):=rfl
  obtain ⟨y,σ',e1,o1⟩:=L84 (s:=s) hl _ 0 (.p .nilsl) [Row.mix (eGr g)] rfl (Nat.zero_le _) Out.zero
  refine Qn (by simp [view,Zv,eGr,ZE,WQ,Zp]) rfl (F84_call (r:=(y,σ')) ?_) (twAll_oI (by rw [intL_len]; exact o1))
  have hb:boxV (.agg (eGr g))=some (eGr g):=rfl
  rw [F84_eq]
  simp only [hb,gG,List.length_nil,List.nil_append,Zj,Qe,Qf,Nat.zero_add,Nat.add_zero,Qc,List.append_nil,List.singleton_append,List.cons_append,List.nil_append,Zh,Qd (off:=2) g0 rfl,Wz]
  exact e1
def mvE (g:Gr) (h:Hs) (x:E) (j:Nat):Edg:=⟨(gE (L g.edges) j).t,(L ((L h.x).getD j none)).getD x.2.toNat 0,(gE (L g.edges) j).a⟩
def mvH (g:Gr) (h:Hs) (x:E):List Edg:=(frN (L g.edges) x.1 (L g.edges).length).map (mvE g h x)
def oE (l:List Edg):OE:=if l=[] then none else some l
theorem L_oE (l:List Edg):L (oE l)=l:=by
  unfold oE
  by_cases h:l=[]
  · subst h; rfl
  · rw [if_neg h]; rfl
theorem bytes141:bytes? PP 141=some 24:=Eq.trans (by kernel_rfl) rfl
theorem src138:ZI PP 138=true:=Eq.trans (by kernel_rfl) rfl
theorem bld102 (x y:Int):build PP 102 [(0,.p (.int .i64 x)),(1,.p (.int .i64 y))]=some (val (x,y)):=Eq.trans (by kernel_rfl) rfl
theorem bld141 (x y z:Int):build PP 141 [(0,val (x,y)),(1,.p (.int .i64 z))]=some (.agg (edgD ⟨x,y,z⟩)):=Eq.trans (by kernel_rfl) rfl
theorem bs138 (e:Edg) (σ:Qa):buildSlice PP none 138 1 [(0,.agg (edgD e))] σ=some (.p (.sl true 1 (eEdg e)),σ):=Eq.trans (by kernel_rfl) rfl
theorem idx22i {o:OI} {i:Int} (h0:0≤i) (h:i.toNat<(L o).length):indexAddr PP 22 (.p (eSl o)) (.p (.int .i64 i))=some (.pptr (Qu (L o)) i.toNat):=idxi h0 h
theorem eEdgs_snoc (l:List Edg) (v:Edg):Ze l++eEdg v=Ze (l++[v]):=by
  induction l with
  | nil=>simp [Ze,eEdg]
  | cons a l ih=>simp only [List.cons_append,Ze,List.append_assoc,ih]
theorem ldEt {l:List Edg} {j:Nat} (h:j<l.length) (σ:Qa):ZG (.pptr (Ze l) (j*3+1)) σ=some (.p (.int .i64 (gE l j).t)):=by
  rw [Vh h]; exact WE (edgs_get l j h).2.1 σ
theorem ldEa {l:List Edg} {j:Nat} (h:j<l.length) (σ:Qa):ZG (.pptr (Ze l) (j*3+2)) σ=some (.p (.int .i64 (gE l j).a)):=by
  rw [Vh h]; exact WE (edgs_get l j h).2.2 σ
theorem ldEf {l:List Edg} {j:Nat} (h:j<l.length) (σ:Qa):ZG (.pptr (Ze l) (j*3)) σ=some (.p (.int .i64 (gE l j).f)):=by
  rw [Vh h]; exact WE (edgs_get l j h).1 σ
section
variable {g : Gr} {h : Hs} {x : E} {fr : List Nat} {B g0 h0 b : Nat}
theorem L83 (hfr:∀ j∈fr,j<(L g.edges).length∧j<(L h.x).length∧x.2.toNat<(L ((L h.x).getD j none)).length) (hx:0≤x.2) (hl:fr.length≤1000) :
    ∀ (d k:Nat) (y:DV) (σ:Qa),fr.length-k=d→k≤fr.length→σ[g0]?=some (.mix (eGr g))→σ[h0]?=some (.mix (eHs h))→σ[b]?=some (.mix (cel x))→B≤σ.length→Out σ B 3 k (Ze ((fr.take k).map (mvE g h x))) y→
    ∃ y' σ',f83_L0 Qb B (.ptr g0 0) (.ptr h0 0) (.ptr b 0) y (.p (eSl (oI (intL fr)))) (N fr.length) (N k) σ=some (y',σ')∧Out σ' B 3 fr.length (Ze (fr.map (mvE g h x))) y'
  | 0,k,y,σ,hd,hk,w1,w2,w3,wB,ho=>by
    have e:k=fr.length:=by omega
    subst e
    rw [List.take_length] at ho
    refine ⟨y,σ,?_,ho⟩
    rw [f83_L0_eq Qb rfl]
    simp (disch:=omega) only [N,Qp,ltF,gG]
  | d+1,k,y,σ,hd,hk,w1,w2,w3,wB,ho=>by
    have hkl:k<fr.length:=by omega
    obtain ⟨a1,a2,a3⟩:=hfr _ (List.getElem_mem hkl)
    generalize hj:fr[k]=j at *
    have ix:indexAddr PP 22 (.p (eSl (oI (intL fr)))) (.p (.int .i64 (k:Nat)))=some (.pptr (Qu (intL fr)) k):=by
      have:=Wn (o:=oI (intL fr)) (i:=k) (by rw [L_oI,intL_len]; exact hkl)
      rwa [L_oI] at this
    have ldk:ZG (.pptr (Qu (intL fr)) k) σ=some (.p (.int .i64 (j:Nat))):=by
      have:=ZF (l:=intL fr) (i:=k) (by rw [intL_len]; exact hkl) σ
      rw [this]
      simp [intL,hj]
    have ixe:=Uj (o:=g.edges) (i:=j) a1
    have ixh:=Uz (o:=h.x) (i:=j) a2
    have ixa:=idx22i (o:=(L h.x).getD j none) hx a3
    have lda:=QD (l:=L ((L h.x).getD j none)) a3 σ
    obtain ⟨y1,σ1,p1,p2,p3,p4⟩:=Out.pushG (lo:=B) (vs:=eEdg (mvE g h x j)) src138 u138 s141 bytes141 zero141 rfl (by decide) (by decide) (by decide) rfl ho (by omega) wB (Nat.le_refl _)
    have e1:Ze ((fr.take k).map (mvE g h x))++eEdg (mvE g h x j)=Ze ((fr.take (k+1)).map (mvE g h x)):=by
      rw [eEdgs_snoc,List.take_succ_eq_append_getElem hkl,List.map_append,hj]; rfl
    rw [e1] at p2
    have km:∀ (j:Nat) (cs:List DV),σ[j]?=some (Row.mix cs)→σ1[j]?=some (Row.mix cs):=fun j cs e=>Others.mix p3 ho e (fun v e=>by cases e)
    have hlen:B≤σ1.length:=by
      rcases p2.2 with ⟨e,_⟩ | ⟨_,r,ver,_,e,e2⟩
      · omega
      · have:=QW e; omega
    obtain ⟨y',σ',r1,r2⟩:=L83 hfr hx hl d (k+1) y1 σ1 (by omega) (by omega) (km _ _ w1) (km _ _ w2) (km _ _ w3) hlen p2
    refine ⟨y',σ',?_,r2⟩
    rw [←r1,f83_L0_eq Qb rfl]
    simp only [pI] at lda
    simp (disch:=omega) only [N,Qp,ltT,gG,ix,QJ,ldk,Zj,Qe,Qf,Nat.zero_add,Nat.add_zero,Qc,List.append_nil,List.singleton_append,List.cons_append,List.nil_append,Zh,Qd (off:=2) w1 (v:=.p (eEs g.edges)) rfl,ixe,Uo,Uf,ldEt a1,ldEa a1,Wk,Wi,Qd (off:=1) w2 (v:=.p (eLs h.x)) rfl,ixh,QH,ldLs a2,fa102_1,Qd (off:=1) w3 (v:=.p (.int .i64 x.2)) rfl,ixa,lda,bld102,bld141,bs138]
    have p1':append PP B false 138 138 y (.p (.sl true 1 (eEdg ⟨(gE (L g.edges) j).t,(L ((L h.x).getD j none)).getD x.2.toNat 0,(gE (L g.edges) j).a⟩))) σ=some (y1,σ1):=p1
    simp (disch:=omega) only [p1',gG,add1]
end
theorem twAll_oE {σ σ':Qa} {lo m:Nat} {l:List Edg} {y:DV} (h:Out σ lo 3 l.length (Ze l) y):Zf m σ' y=some (.p (eEs (oE l))):=by
  have h2:Zf m σ y=some (.p (eEs (oE l))):=by
    rw [Out.twAll h m,loosens_edgs]
    unfold oE
    by_cases e:l=[]
    · subst e; rfl
    · rw [if_neg e,if_neg (fun h=>e (List.length_eq_zero_iff.1 h))]; rfl
  rcases h.2 with ⟨_,rfl⟩ | ⟨_,r,ver,rfl,_,_⟩
  · exact h2
  · exact h2
theorem S83 {g:Gr} {h:Hs} {x:E} {σ:Qa} {g0 h0:Nat} (w1:σ[g0]?=some (.mix (eGr g))) (w2:σ[h0]?=some (.mix (eHs h))) (hl:(L g.edges).length≤1000) (hn:(L h.x).length=(L g.edges).length) (hr:∀ j,j<(L h.x).length→(L ((L h.x).getD j none)).length=8) (hx:0≤x.2∧x.2≤7) :
    Qx CC 83 [val x,.ptr g0 0,.ptr h0 0] σ=some (.p (eEs (oE (mvH g h x)))):=by
  have hmem:∀ j∈frN (L g.edges) x.1 (L g.edges).length,j<(L g.edges).length:=fun j hj=>by
    unfold frN at hj
    rw [List.mem_filter,List.mem_range] at hj
    exact hj.1
  have v1:(σ++[Row.mix (cel x)])[g0]?=some (.mix (eGr g)):=QV w1
  have v2:(σ++[Row.mix (cel x)])[h0]?=some (.mix (eHs h)):=QV w2
  have v3:(σ++[Row.mix (cel x)])[σ.length]?=some (.mix (cel x)):=QE
  have hfl:=frN_len (L g.edges) x.1 (L g.edges).length
  obtain ⟨y,σ',e1,o1⟩:=L83 (g:=g) (h:=h) (x:=x) (fr:=frN (L g.edges) x.1 (L g.edges).length) (B:=σ.length) (g0:=g0) (h0:=h0) (b:=σ.length) (fun j hj=>⟨hmem j hj,by rw [hn]; exact hmem j hj,by rw [hr j (by rw [hn]; exact hmem j hj)]; omega⟩) hx.1 (by omega)
    _ 0 (.p .nilsl) _ rfl (Nat.zero_le _) v1 v2 v3 (by simp) Out.zero
  refine WC (by simp [view,Zv,val,cel,Zp]) (by simp [Zt,ZV]) (F83_call (r:=(y,σ')) ?_) (twAll_oE (by unfold mvH; rw [List.length_map]; exact o1))
  have hld:load PP 25 (.ptr g0 0) (σ++[Row.mix (cel x)])=some (.agg (eGr g)):=by
    rw [UH,QK (vs:=eGr g) v1 rfl (by simp [eGr])]; rfl
  have hlen:len PP 22 (.p (eSl (oI (intL (frN (L g.edges) x.1 (L g.edges).length))))) (σ++[Row.mix (cel x)])=some (N (frN (L g.edges) x.1 (L g.edges).length).length):=by
    rw [QP,L_oI,intL_len]
  rw [F83_eq]
  simp only [box_val,gG,hld,fa102_0,Qe,Qf,Nat.zero_add,Nat.add_zero,Qc,List.append_nil,List.singleton_append,List.cons_append,List.nil_append,QJ,Qd (off:=0) v3 (v:=.p (.int .i64 x.1)) rfl,S84 hl,hlen]
  exact e1
end Go.D.StS
end
/- Chapter 22: graphs and history variables as arguments. -/
section
set_option linter.unusedVariables false
set_option maxRecDepth 100000
namespace Go.D
open Go.ChangeShapes Go.WideShapes Go.ChangeAt Go.RowKit
open Go.D.StS (Hs eHs eLs)
theorem dec26 {a:List PV} (h:Plain PP 26 a):∃ o,a=[eLs o]:=by
  rcases h.inv_slice StS.u26 with rfl | ⟨n,xs,hx,rfl⟩
  · exact ⟨none,rfl⟩
  · obtain ⟨l,rfl,rfl⟩:=hx.inv_rep (f:=fun n=>[eSl n]) fun a ha=>dec22 ha
    exact ⟨some l,by rw [flat1]; rfl⟩
section
variable {H : Type} {enc : TypeId × Value → H} {W : World} {hd : Bool} {r : Reach} {b0 : Nat} {v : Value} {d : DataW H} {ps : List MemPlace}
theorem read_gr (hok:Value.okWide PP W r b0 25 v) (h:DataW.Trod enc PP W 0 (fun _=>true) hd 25 v d ps):∃ g:Gr,VRel (fun _ _=>none) (memOf W) (.agg (eGr g)) v:=by
  obtain ⟨c,h1,h2⟩:=read_struct 8 Go.Proofs.Tryz.underlying25 (by kernel_rfl) hok h
  obtain ⟨g,rfl⟩:=dec25 h1
  exact ⟨g,h2⟩
theorem read_hs (hok:Value.okWide PP W r b0 28 v) (h:DataW.Trod enc PP W 0 (fun _=>true) hd 28 v d ps):∃ x:Hs,VRel (fun _ _=>none) (memOf W) (.agg (eHs x)) v:=by
  obtain ⟨c,h1,h2⟩:=read_struct 8 Go.Proofs.Tryz.underlying28 (by kernel_rfl) hok h
  have h3:=h1.inv_struct Go.Proofs.Tryz.underlying28
  obtain ⟨a1,b1,k1,h5,rfl⟩:=PlainL.inv_cons h3
  obtain ⟨a2,b2,k2,h7,rfl⟩:=PlainL.inv_cons h5
  obtain ⟨p,rfl⟩:=dec22 k1
  obtain ⟨q,rfl⟩:=dec26 k2
  obtain rfl:=PlainL.inv_nil h7
  exact ⟨⟨p,q⟩,h2⟩
end
end Go.D
end
/- Closed calls, worked out by the kernel one by one. -/
section
set_option linter.unusedVariables false
set_option maxRecDepth 100000
namespace Go.D
mutual
def eqPV:PV→PV→Bool
  | .bool a,.bool b=>a==b
  | .int k n,.int k' m=>k==k'&&n==m
  | .nilsl,.nilsl=>true
  | .sl a n cs,.sl b m ds=>a==b&&n==m&&eqPVs cs ds
  | _,_=>false
def eqPVs:List PV→List PV→Bool
  | [],[]=>true
  | a::as',b::bs=>eqPV a b&&eqPVs as' bs
  | _,_=>false
end
mutual
theorem eqPV_eq:∀ (a b:PV),eqPV a b=true→a=b
  | .bool a,.bool b,h=>by simp [eqPV] at h; rw [h]
  | .int k n,.int k' m,h=>by
    simp [eqPV] at h
    rw [h.1,h.2]
  | .nilsl,.nilsl,h=>rfl
  | .sl a n cs,.sl b m ds,h=>by
    simp [eqPV] at h
    rw [h.1.1,h.1.2,eqPVs_eq cs ds h.2]
  | .bool _,.int ..,h | .bool _,.str _,h | .bool _,.nilptr,h | .bool _,.nilsl,h | .bool _,.nilmap,h | .bool _,.nilfn,h | .bool _,.niliface,h | .bool _,.sl ..,h=>by simp [eqPV] at h
  | .int ..,.bool _,h | .int ..,.str _,h | .int ..,.nilptr,h | .int ..,.nilsl,h | .int ..,.nilmap,h | .int ..,.nilfn,h | .int ..,.niliface,h | .int ..,.sl ..,h=>by simp [eqPV] at h
  | .nilsl,.bool _,h | .nilsl,.int ..,h | .nilsl,.str _,h | .nilsl,.nilptr,h | .nilsl,.nilmap,h | .nilsl,.nilfn,h | .nilsl,.niliface,h | .nilsl,.sl ..,h=>by simp [eqPV] at h
  | .sl ..,.bool _,h | .sl ..,.int ..,h | .sl ..,.str _,h | .sl ..,.nilptr,h | .sl ..,.nilsl,h | .sl ..,.nilmap,h | .sl ..,.nilfn,h | .sl ..,.niliface,h=>by simp [eqPV] at h
  | .str _,b,h | .nilptr,b,h | .nilmap,b,h | .nilfn,b,h | .niliface,b,h=>by cases b <;> simp [eqPV] at h
theorem eqPVs_eq:∀ (a b:List PV),eqPVs a b=true→a=b
  | [],[],h=>rfl
  | a::as',b::bs,h=>by
    simp [eqPVs] at h
    rw [eqPV_eq a b h.1,eqPVs_eq as' bs h.2]
  | [],_::_,h | _::_,[],h=>by simp [eqPVs] at h
end
def flatD:DV→Option (List (Nat×PV))
  | .p v=>some [(0,v)]
  | .agg cs=>some (cs.filterMap fun c=>match c with | .p v=>some (1,v) | _=>none)
  | _=>none
def eqD1:DV→DV→Bool
  | .p v,.p w=>eqPV v w
  | _,_=>false
def eqD1s:List DV→List DV→Bool
  | [],[]=>true
  | a::as',b::bs=>eqD1 a b&&eqD1s as' bs
  | _,_=>false
def eqD2:DV→DV→Bool
  | .agg cs,.agg ds=>eqD1s cs ds
  | a,b=>eqD1 a b
def eqD2s:List DV→List DV→Bool
  | [],[]=>true
  | a::as',b::bs=>eqD2 a b&&eqD2s as' bs
  | _,_=>false
def eqD:DV→DV→Bool
  | .tuple cs,.tuple ds=>eqD2s cs ds
  | a,b=>eqD2 a b
theorem eqD1_eq {a b:DV} (h:eqD1 a b=true):a=b:=by
  unfold eqD1 at h
  split at h
  · rw [eqPV_eq _ _ h]
  · exact absurd h (by simp)
theorem eqD1s_eq:∀ {a b:List DV},eqD1s a b=true→a=b
  | [],[],h=>rfl
  | a::as',b::bs,h=>by
    simp only [eqD1s,Bool.and_eq_true] at h
    rw [eqD1_eq h.1,eqD1s_eq h.2]
  | [],_::_,h=>absurd h (by simp [eqD1s])
  | _::_,[],h=>absurd h (by simp [eqD1s])
theorem eqD2_eq {a b:DV} (h:eqD2 a b=true):a=b:=by
  unfold eqD2 at h
  split at h
  · rw [eqD1s_eq h]
  · exact eqD1_eq h
theorem eqD2s_eq:∀ {a b:List DV},eqD2s a b=true→a=b
  | [],[],h=>rfl
  | a::as',b::bs,h=>by
    simp only [eqD2s,Bool.and_eq_true] at h
    rw [eqD2_eq h.1,eqD2s_eq h.2]
  | [],_::_,h=>absurd h (by simp [eqD2s])
  | _::_,[],h=>absurd h (by simp [eqD2s])
theorem eqD_eq {a b:DV} (h:eqD a b=true):a=b:=by
  unfold eqD at h
  split at h
  · rw [eqD2s_eq h]
  · exact eqD2_eq h
def UQ (P:Program) (pol:FuncId→FPol) (k:Nat) (f:FuncId) (args:List DV) (r:DV):Bool:=
  match callK P pol k 0 f args [] with
  | some (v,σ)=>match Zf 0 σ v with
    | some v'=>eqD v' r
    | none=>false
  | none=>false
theorem WO {k:Nat} {f:FuncId} {args:List DV} {r:DV} {σ:Qa} (h:UQ PP pol k f args r=true) (h1:args.map view=args) (h2:args.all Zt=true):Qx CC f args σ=some r:=by
  unfold UQ at h
  split at h
  · rename_i v σ' hc
    split at h
    · rename_i v' ht
      exact Qn h1 h2 (callL_at hc) (ht.trans (by rw [eqD_eq h]))
    · exact absurd h (by simp)
  · exact absurd h (by simp)
end Go.D
end
