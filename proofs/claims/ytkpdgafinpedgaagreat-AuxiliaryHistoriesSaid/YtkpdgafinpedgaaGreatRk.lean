/- The examples of chapter 22: awake answers true. -/
import Derived.Test.YtkpdgafinpedgaaGreatRh
import Derived.Test.YtkpdgafinpedgaaGreatRi
import Derived.Test.YtkpdgafinpedgaaGreatRj
import Derived.Test.YtkpdgafinpedgaaGreatRf
import Derived.Test.YtkpdgafinpedgaaGreatRc
section
set_option linter.unusedVariables false
set_option linter.unusedSimpArgs false
set_option maxRecDepth 100000
namespace Go.D
def runAt (P:Program) (pol:FuncId→FPol) (k:Nat) (f:FuncId) (args:List DV) (r:DV) (σ:Qa):Bool:=
  match callK P pol k σ.length f args σ with
  | some (v,σ')=>match Zf σ.length σ' v with
    | some v'=>eqD v' r
    | none=>false
  | none=>false
theorem pureV_runAt {k:Nat} {f:FuncId} {args:List DV} {r:DV} {σ:Qa} (h:runAt PP pol k f args r σ=true) (h1:args.map view=args) (h2:args.all Zt=false):Qx CC f args σ=some r:=by
  unfold runAt at h
  split at h
  · rename_i v σ' hc
    split at h
    · rename_i v' ht
      exact (WC h1 h2 (callL_at hc) ht).trans (by rw [eqD_eq h])
    · exact absurd h (by simp)
  · exact absurd h (by simp)
def pv2 (a b:Int):PV:=.sl true 2 (Qu [a,b])
def z33:List DV:=[.p (pI 0),.p .nilsl,.p .nilsl,.p .nilsl,.p .nilsl]
def gVc:List DV:=[.p (pI 2),.rsl 2 1 0 2]
def gB:PV:=.sl true 4 [pv2 0 0,pv2 0 1,pv2 1 0,pv2 1 1]
def s1:Qa:=[.mix exA]
def s3':Qa:=[.mix exA,.mix gVc,.mix [.p (.sl true 2 [pv2 0 0,pv2 1 1]),.p gB]]
def s4':Qa:=[.mix exA,.mix gVc,.mix [.p (.sl true 2 [pv2 0 0,pv2 1 1]),.p gB],.mix gVc]
def s5':Qa:=[.mix exA,.mix gVc,.mix [.p (.sl false 1 [pv2 0 0]),.p gB],.mix gVc]
def s6':Qa:=[.mix exA,.mix gVc,.mix [.p (.sl false 1 [pv2 0 0]),.p gB],.mix gVc,.mix exY]
theorem run39:runAt PP pol 40 39 [.agg (eGr exG),.agg gVc] (.tuple [.p (pI 0),.p (pI 1),.p (pI 31)]) s5'=true:=by decide +kernel
theorem E46 (σ:Qa):Qx CC 46 [] σ=some (.agg (eGr exG)):=WO run46 rfl rfl
theorem E47 (σ:Qa):Qx CC 47 [] σ=some (.agg exH):=WO run47 rfl rfl
theorem E49 (σ:Qa):Qx CC 49 [] σ=some (.agg exS):=WO run49 rfl rfl
theorem E12 (σ:Qa):Qx CC 12 [.agg (eGr exG),.agg exH] σ=some (.tuple [.agg exA,.p (pI 0)]):=WO run12 rfl rfl
theorem E25 (σ:Qa):Qx CC 25 [.agg (eGr exG),.agg exS] σ=some (.tuple [.agg exY,.p (pI 0)]):=WO run25 rfl rfl
theorem E15 (σ:Qa):Qx CC 15 [.agg (eGr exG),.agg exH,.p (.sl true 4 (Qu [0,1,0,1]))] σ=some (.tuple [.p (eSl (some [0,3,1,4])),.p (pI 0)]):=by
  rw [ZW (args':=[.agg (eGr exG),.agg exH,.p (eSl (some [0,1,0,1]))]) rfl rfl]
  exact WO run15 rfl rfl
theorem E27 (σ:Qa):Qx CC 27 [.agg (eGr exG),.agg exS,.p (.sl true 2 (Qu [0,1]))] σ=some (.tuple [.p (eSl (some [0,2,1,3])),.p (pI 0)]):=by
  rw [ZW (args':=[.agg (eGr exG),.agg exS,.p (eSl (some [0,1]))]) rfl rfl]
  exact WO run27 rfl rfl
theorem E31 (σ:Qa):Qx CC 31 [.agg exY,.p (.sl true 3 (Qu [0,2,1]))] σ=some (.tuple [.p (eSl (some [0])),.p (pI 0)]):=by
  rw [ZW (args':=[.agg exY,.p (eSl (some [0,2,1]))]) rfl rfl]
  exact WO run31 rfl rfl
theorem E34 (l:List Int) (n:Nat) (hn:n=l.length) (hl:l.length≤1000) (σ:Qa):Qx CC 34 [.p (eSl (some l)),.p (.sl true n (Qu l))] σ=some (.p (.bool true)):=by
  rw [ZW (args':=[.p (eSl (some l)),.p (eSl (some l))]) (by subst hn; simp [view,Zv,Zp,Zr,eSl]) (by simp [Zg])]
  exact S34 (a:=some l) (b:=some l) rfl hl
theorem E39:Qx CC 39 [.agg (eGr exG),.agg gVc] s5'=some (.tuple [.p (pI 0),.p (pI 1),.p (pI 31)]):=pureV_runAt run39 rfl rfl
theorem E48:Qg CC 0 (.fn 48 []) [] s1=some (.agg gVc,s3'):=by
  have h:callK PP pol 40 0 48 [] s1=some (.agg gVc,s3'):=by kernel_rfl
  exact callL_at h
theorem g33:Qz PP 33=some z33:=Eq.trans (by kernel_rfl) rfl
theorem g74:Qz PP 74=some [.p (pI 0),.p .nilsl]:=Eq.trans (by kernel_rfl) rfl
theorem h1:store PP 0 33 (.ptr 0 0) (.agg exA) [.mix z33]=some s1:=Eq.trans (by kernel_rfl) rfl
theorem h4:store PP 0 74 (.ptr 3 0) (.agg gVc) (s3'++[.mix [.p (pI 0),.p .nilsl]])=some s4':=Eq.trans (by kernel_rfl) rfl
theorem l3:s3'.length=3:=rfl
theorem l5:s5'.length=4:=rfl
theorem h5:fieldAddr PP 74 (.ptr 3 0) 1=some (.ptr 3 1):=Eq.trans (by kernel_rfl) rfl
theorem h6:load PP 72 (.ptr 3 1) s4'=some (.rsl 2 1 0 2):=Eq.trans (by kernel_rfl) rfl
theorem h7:indexAddr PP 72 (.rsl 2 1 0 2) (.p (.int .i64 0))=some (.ptr 2 0):=Eq.trans (by kernel_rfl) rfl
theorem h8:load PP 26 (.ptr 2 0) s4'=some (.p (.sl true 2 [pv2 0 0,pv2 1 1])):=Eq.trans (by kernel_rfl) rfl
theorem h9:ZY PP 26 (.p (.sl true 2 [pv2 0 0,pv2 1 1])) none (some (.p (.int .i64 1))) none=some (.p (.sl false 1 [pv2 0 0])):=Eq.trans (by kernel_rfl) rfl
theorem h10:store PP 0 26 (.ptr 2 0) (.p (.sl false 1 [pv2 0 0])) s4'=some s5':=Eq.trans (by kernel_rfl) rfl
theorem h11:load PP 74 (.ptr 3 0) s5'=some (.agg gVc):=Eq.trans (by kernel_rfl) rfl
theorem h13:store PP 0 33 (.ptr 4 0) (.agg exY) (s5'++[.mix z33])=some s6':=Eq.trans (by kernel_rfl) rfl
theorem h14:load PP 33 (.ptr 4 0) s6'=some (.agg exY):=Eq.trans (by kernel_rfl) rfl
theorem h15:load PP 22 (.ptr 0 3) s6'=some (.p (eSl (some [0,0,0,1,1]))):=Eq.trans (by kernel_rfl) rfl
theorem h16:load PP 22 (.ptr 0 4) s6'=some (.p (eSl (some [0,1,2,1,2]))):=Eq.trans (by kernel_rfl) rfl
theorem bs22_4 (a b c d:Int) (σ:Qa):buildSlice PP none 22 4 [(0,.p (.int .i64 a)),(1,.p (.int .i64 b)),(2,.p (.int .i64 c)),(3,.p (.int .i64 d))] σ=some (.p (.sl true 4 (Qu [a,b,c,d])),σ):=Eq.trans (by kernel_rfl) rfl
theorem bs22_5 (a b c d e:Int) (σ:Qa):buildSlice PP none 22 5 [(0,.p (.int .i64 a)),(1,.p (.int .i64 b)),(2,.p (.int .i64 c)),(3,.p (.int .i64 d)),(4,.p (.int .i64 e))] σ=some (.p (.sl true 5 (Qu [a,b,c,d,e])),σ):=Eq.trans (by kernel_rfl) rfl
theorem bs22_3' (a b c:Int) (σ:Qa):buildSlice PP none 22 3 [(0,.p (.int .i64 a)),(1,.p (.int .i64 b)),(2,.p (.int .i64 c))] σ=some (.p (.sl true 3 (Qu [a,b,c])),σ):=Eq.trans (by kernel_rfl) rfl
theorem bs22_1' (a:Int) (σ:Qa):buildSlice PP none 22 1 [(0,.p (.int .i64 a))] σ=some (.p (.sl true 1 (Qu [a])),σ):=Eq.trans (by kernel_rfl) rfl
theorem e3_0 (a b c:DV):Ql (.tuple [a,b,c]) 0=some a:=Eq.trans rfl rfl
theorem e3_1 (a b c:DV):Ql (.tuple [a,b,c]) 1=some b:=Eq.trans rfl rfl
theorem e3_2 (a b c:DV):Ql (.tuple [a,b,c]) 2=some c:=Eq.trans rfl rfl
theorem awake_F9:F9 Qb 0 []=some (.p (.bool true),s6'):=by
  rw [F9_eq]
  simp only [Qc,List.append_nil,E46,E47,E12,QB,ex0,ex1,g33,List.length_nil,List.nil_append,h1,bs22_4,E15,E48,g74,l3,h4,h5,h6,h7,h8,h9,h10,h11,E39,e3_0,e3_1,e3_2,E49,bs22_2,E27,E25,l5,h13,
    ZO,Zc,eqT (rfl:(0:Int)=0),eqT (rfl:(1:Int)=1),eqT (rfl:(31:Int)=31),Bool.not_true,ZB,ZL,WM,WL,ZM,Zq,QI,QF,QC,Qy,h14,bs22_3',E31,We,WW,Qe,Nat.zero_add,Nat.add_zero,h15,h16,bs22_5,bs22_1',E34 [0,0,0,1,1] 5 rfl (by decide),E34 [0,1,2,1,2] 5 rfl (by decide),E34 [0,3,1,4] 4 rfl (by decide),E34 [0,2,1,3] 4 rfl (by decide),E34 [0] 1 rfl (by decide),decide_true]
theorem awake_true:∀ σ,Qx CC 9 [] σ=some (.p (.bool true)):=fun σ=>Qn rfl rfl (F9_call awake_F9) rfl
end Go.D
end
/- Chapter 22: right graphs, what is reached, and the raw steps, in plain terms. -/
section
set_option linter.unusedVariables false
set_option linter.unusedSimpArgs false
namespace Go.D.StS
open Go.D.Srt
theorem adj_pair {α:Type} {R:α→α→Prop} (ht:∀ x y z,R x y→R y z→R x z):∀ {l:List α},(∀ i (h:i+1<l.length),R l[i] l[i+1])→l.Pairwise R
  | [],_=>List.Pairwise.nil
  | [x],_=>by simp
  | x::y::l,h=>by
    have ih:(y::l).Pairwise R:=adj_pair ht fun i hi=>h (i+1) (by simpa using hi)
    have h0:R x y:=h 0 (by simp)
    rw [List.pairwise_cons]
    refine ⟨fun z hz=>?_,ih⟩
    rcases List.mem_cons.1 hz with rfl | hz
    · exact h0
    · rw [List.pairwise_cons] at ih
      exact ht _ _ _ h0 (ih.1 z hz)
structure GOk (g:Gr):Prop where
  n0:0≤g.n∧g.n≤400
  e0:(L g.edges).length≤2000
  il:∀ s∈L g.init,0≤s∧s<g.n
  ip:(L g.init).Pairwise (· < ·)
  el:∀ e∈L g.edges,(0≤e.f∧e.f<g.n)∧(0≤e.t∧e.t<g.n)∧(0≤e.a∧e.a≤11)
  ep:(L g.edges).Pairwise fun x y=>ordE x y<0
theorem WF (n a b:Int):inR n a b=true↔a≤n∧n≤b:=by
  unfold inR
  rw [Bool.and_eq_true,decide_eq_true_iff,decide_eq_true_iff]
theorem ordE_trans (x y z:Edg) (h1:ordE x y<0) (h2:ordE y z<0):ordE x z<0:=by
  rw [StT.ordE_lt] at *; omega
theorem isG_iff (g:Gr):isG g=true↔GOk g:=by
  have hp:inR g.n 0 400=true→pred g.n=g.n-1:=fun h=>by
    rw [WF] at h
    exact QL (by omega) (by omega)
  unfold isG
  simp only [Bool.and_eq_true,decide_eq_true_iff,allFrom_iff]
  constructor
  · rintro ⟨⟨⟨h1,h2⟩,h3⟩,h4⟩
    have hpn:=hp h1
    rw [WF] at h1
    have qi:∀ i (h:i<(L g.init).length),(L g.init).getD i 0=(L g.init)[i]:=fun i h=>QZ 0 h
    have qe:∀ i (h:i<(L g.edges).length),(L g.edges).getD i default=(L g.edges)[i]:=fun i h=>QZ default h
    refine ⟨h1,h2,fun s hs=>?_,?_,fun e he=>?_,?_⟩
    · obtain ⟨i,hi,rfl⟩:=List.getElem_of_mem hs
      have:=h3 i (Nat.zero_le _) (by omega)
      unfold okI at this
      rw [Bool.and_eq_true,WF,hpn,qi i hi] at this
      omega
    · refine adj_pair (fun x y z h1 h2=>by omega) fun i hi=>?_
      have:=h3 (i+1) (Nat.zero_le _) (by omega)
      unfold okI at this
      simp only [Bool.and_eq_true,Bool.or_eq_true,decide_eq_true_iff,Nat.add_sub_cancel] at this
      rw [qi (i+1) hi,qi i (by omega)] at this
      rcases this.2 with h | h
      · omega
      · exact h
    · obtain ⟨i,hi,rfl⟩:=List.getElem_of_mem he
      have:=h4 i (Nat.zero_le _) (by omega)
      unfold okE at this
      simp only [Bool.and_eq_true,WF,hpn] at this
      rw [qe i hi] at this
      obtain ⟨w1,w2,w3,_⟩:=this
      exact ⟨⟨w1.1,by omega⟩,⟨w2.1,by omega⟩,w3⟩
    · refine adj_pair ordE_trans fun i hi=>?_
      have:=h4 (i+1) (Nat.zero_le _) (by omega)
      unfold okE at this
      simp only [Bool.and_eq_true,Bool.or_eq_true,decide_eq_true_iff,Nat.add_sub_cancel] at this
      rw [qe (i+1) hi,qe i (by omega)] at this
      rcases this.2.2.2 with h | h
      · omega
      · exact h
  · intro h
    have h1:=(WF g.n 0 400).2 h.n0
    have hpn:=hp h1
    refine ⟨⟨⟨h1,h.e0⟩,fun j _ hj=>?_⟩,fun j _ hj=>?_⟩
    · have hj':j<(L g.init).length:=by omega
      unfold okI
      rw [Bool.and_eq_true,WF,hpn,QZ 0 hj']
      have:=h.il _ (List.getElem_mem hj')
      refine ⟨by omega,?_⟩
      rw [Bool.or_eq_true,decide_eq_true_iff,decide_eq_true_iff]
      by_cases e:j=0
      · exact .inl e
      · refine .inr ?_
        rw [QZ 0 (show j-1<(L g.init).length by omega)]
        exact List.pairwise_iff_getElem.1 h.ip (j-1) j (by omega) hj' (by omega)
    · have hj':j<(L g.edges).length:=by omega
      unfold okE
      simp only [Bool.and_eq_true,WF,hpn,QZ default hj']
      have:=h.el _ (List.getElem_mem hj')
      refine ⟨by omega,by omega,by omega,?_⟩
      rw [Bool.or_eq_true,decide_eq_true_iff,decide_eq_true_iff]
      by_cases e:j=0
      · exact .inl e
      · refine .inr ?_
        rw [QZ default (show j-1<(L g.edges).length by omega)]
        exact List.pairwise_iff_getElem.1 h.ep (j-1) j (by omega) hj' (by omega)
theorem WH (A l:List E) (x:E):x∈Zk A l↔x∈A∨x∈l:=by
  induction l generalizing A with
  | nil=>simp [Zk]
  | cons y l ih=>
    unfold Zk
    rw [ih]
    by_cases h:A.contains y=true
    · rw [if_pos h,List.mem_cons]
      constructor
      · rintro (h | h)
        · exact .inl h
        · exact .inr (.inr h)
      · rintro (h2 | rfl | h2)
        · exact .inl h2
        · exact .inl (List.contains_iff_mem.1 h)
        · exact .inr h2
    · rw [if_neg h,List.mem_append,List.mem_singleton,List.mem_cons,or_assoc]
theorem addAll_nodup (A l:List E) (h:A.Nodup):(Zk A l).Nodup:=by
  induction l generalizing A with
  | nil=>exact h
  | cons y l ih=>
    unfold Zk
    by_cases hc:A.contains y=true
    · rw [if_pos hc]; exact ih A h
    · rw [if_neg hc]
      refine ih _ ?_
      rw [List.nodup_append]
      refine ⟨h,by simp,fun u hu v hv e=>hc ?_⟩
      rw [List.mem_singleton] at hv
      subst hv
      subst e
      exact List.contains_iff_mem.2 hu
theorem addAll_pre (A l:List E):A <+: Zk A l:=by
  induction l generalizing A with
  | nil=>exact List.prefix_refl A
  | cons y l ih=>
    unfold Zk
    split
    · exact ih A
    · exact (List.prefix_append A _).trans (ih _)
def InS (n:Int) (x:E):Prop:=(0≤x.1∧x.1<n)∧(0≤x.2∧x.2≤7)
structure IG (n:Int) (A:List E):Prop where
  nd:A.Nodup
  ir:∀ x∈A,InS n x
theorem nodup_le {α:Type} [DecidableEq α]:∀ {l u:List α},l.Nodup→(∀ x∈l,x∈u)→l.length≤u.length
  | [],u,_,_=>Nat.zero_le _
  | a::l,u,hn,h=>by
    have ha:=h a (by simp)
    rw [List.nodup_cons] at hn
    have ih:=nodup_le (l:=l) (u:=u.erase a) hn.2 fun x hx=>by
      have hne:x≠a:=fun e=>hn.1 (e ▸ hx)
      exact (List.mem_erase_of_ne hne).2 (h x (by simp [hx]))
    have h1:=List.length_erase_of_mem ha
    have h2:0<u.length:=List.length_pos_of_mem ha
    simp only [List.length_cons]
    omega
theorem IG.len {n:Int} {A:List E} (h:IG n A) (hn:n≤8):A.length≤64:=by
  have h1:(A.map fun x:E=>x.1*8+x.2).Nodup:=by
    rw [List.nodup_iff_pairwise_ne,List.pairwise_map]
    have h0:=h.nd
    rw [List.nodup_iff_pairwise_ne] at h0
    refine List.Pairwise.imp_of_mem (fun {x y} hx hy h1 e=>h1 ?_) h0
    have a:=h.ir x hx
    have b:=h.ir y hy
    unfold InS at a b
    exact Prod.ext (by omega) (by omega)
  have h2:=nodup_le (u:=(List.range 64).map fun (k:Nat)=>(k:Int)) h1 fun v hv=>by
    rw [List.mem_map] at hv
    obtain ⟨x,hx,rfl⟩:=hv
    have a:=h.ir x hx
    unfold InS at a
    rw [List.mem_map]
    exact ⟨(x.1*8+x.2).toNat,by rw [List.mem_range]; omega,by omega⟩
  simpa using h2
theorem ge_pre {A C:List E} (hp:A <+: C) {j:Nat} (hj:j<A.length):ge C j=ge A j:=by
  obtain ⟨t,ht⟩:=hp
  rw [←ht]
  unfold ge
  rw [List.getD_eq_getElem?_getD,List.getElem?_append_left hj,←List.getD_eq_getElem?_getD]
theorem groM_closed {M:E→OE} {K:Nat} {I:List E→Prop} (hN:∀ A,I A→A.length≤K) (hI:∀ A x,I A→x∈A→I (Zk A ((L (M x)).map toE))):∀ (d i:Nat) (A:List E),I A→K-i≤d→(∀ j,j<i→j<A.length→∀ e∈L (M (ge A j)),toE e∈A)→
    I (groM M d i A)∧A <+: groM M d i A∧∀ x∈groM M d i A,∀ e∈L (M x),toE e∈groM M d i A
  | 0,i,A,h,hd,hj=>by
    have h1:=hN A h
    refine ⟨h,List.prefix_refl _,fun x (hx:x∈A) e he=>?_⟩
    obtain ⟨k,hk,rfl⟩:=List.getElem_of_mem hx
    have:=hj k (by omega) hk e
    rw [ZA hk] at this
    exact this he
  | d+1,i,A,h,hd,hj=>by
    unfold groM
    by_cases hlt:i<A.length
    · rw [if_pos hlt]
      have hp:=addAll_pre A ((L (M (ge A i))).map toE)
      obtain ⟨r1,r2,r3⟩:=groM_closed hN hI d (i+1) _ (hI A (ge A i) h (by rw [ZA hlt]; exact List.getElem_mem hlt)) (by omega) fun j hji hjl e he=>by
        have hjA:j<A.length:=by omega
        rw [ge_pre hp hjA] at he
        rw [WH]
        by_cases e1:j=i
        · subst e1; exact .inr (List.mem_map.2 ⟨e,he,rfl⟩)
        · exact .inl (hj j (by omega) hjA e he)
      exact ⟨r1,hp.trans r2,r3⟩
    · rw [if_neg hlt]
      refine ⟨h,List.prefix_refl _,fun x hx e he=>?_⟩
      obtain ⟨k,hk,rfl⟩:=List.getElem_of_mem hx
      have:=hj k (by omega) hk e
      rw [ZA hk] at this
      exact this he
theorem mem_rawE (M:E→OE) (B:List E) (e:Edg):∀ (l:List E) (i:Nat),e∈rawE M B i l↔∃ k,k<l.length∧∃ m∈L (M (ge l k)),e=⟨((i+k:Nat):Int),((B.idxOf (toE m):Nat):Int),m.a⟩
  | [],i=>by simp [rawE]
  | x::l,i=>by
    rw [rawE,List.mem_append,mem_rawE M B e l (i+1)]
    constructor
    · rintro (h | ⟨k,hk,m,hm,rfl⟩)
      · unfold rowE at h
        rw [List.mem_map] at h
        obtain ⟨m,hm,rfl⟩:=h
        exact ⟨0,by simp,m,hm,rfl⟩
      · exact ⟨k+1,by simpa using hk,m,hm,by rw [show i+1+k=i+(k+1) by omega]⟩
    · rintro ⟨k,hk,m,hm,rfl⟩
      cases k with
      | zero=>exact .inl (by unfold rowE; rw [List.mem_map]; exact ⟨m,hm,rfl⟩)
      | succ k=>exact .inr ⟨k,by simpa using hk,m,hm,by rw [show i+1+k=i+(k+1) by omega]⟩
theorem idx_inj {B:List E} {x y:E} (hx:x∈B) (hy:y∈B) (h:B.idxOf x=B.idxOf y):x=y:=by
  have a:=(ZR hx).2
  have b:=(ZR hy).2
  rw [h] at a
  exact a.symm.trans b
theorem toE_inj {m m':Edg} (h1:toE m=toE m') (h2:m.a=m'.a):m=m':=by
  obtain ⟨a,b,c⟩:=m
  obtain ⟨a',b',c'⟩:=m'
  simp only [toE,Prod.mk.injEq] at h1
  simp only at h2
  rw [h1.1,h1.2,h2]
theorem rawE_nodup {M:E→OE} {B:List E}:∀ (l:List E) (i:Nat),(∀ x∈l,(L (M x)).Nodup)→(∀ x∈l,∀ e∈L (M x),toE e∈B)→(rawE M B i l).Nodup
  | [],i,_,_=>List.nodup_nil
  | x::l,i,h1,h2=>by
    rw [rawE,List.nodup_append]
    refine ⟨?_,rawE_nodup l (i+1) (fun y hy=>h1 y (by simp [hy])) (fun y hy=>h2 y (by simp [hy])),fun a ha b hb e=>?_⟩
    · unfold rowE
      rw [List.nodup_iff_pairwise_ne,List.pairwise_map]
      have h0:=h1 x (by simp)
      rw [List.nodup_iff_pairwise_ne] at h0
      refine List.Pairwise.imp_of_mem (fun {m m'} hm hm' h3 e=>h3 ?_) h0
      simp only [Edg.mk.injEq,true_and] at e
      exact toE_inj (idx_inj (h2 x (by simp) m hm) (h2 x (by simp) m' hm') (by omega)) e.2
    · subst e
      unfold rowE at ha
      rw [List.mem_map] at ha
      obtain ⟨m,hm,rfl⟩:=ha
      rw [mem_rawE] at hb
      obtain ⟨k,hk,m',hm',e⟩:=hb
      simp only [Edg.mk.injEq] at e
      omega
theorem rawE_len {M:E→OE} {B:List E} {c:Nat}:∀ (l:List E) (i:Nat),(∀ x∈l,(L (M x)).length≤c)→(rawE M B i l).length≤c*l.length
  | [],i,_=>by simp [rawE]
  | x::l,i,h=>by
    rw [rawE,List.length_append,rowE_len,List.length_cons,Nat.mul_add,Nat.mul_one]
    have h1:=h x (by simp)
    have h2:=rawE_len (M:=M) (B:=B) l (i+1) (fun y hy=>h y (by simp [hy]))
    omega
end Go.D.StS
end
/- Chapter 22: the graph extended by a history variable. -/
section
set_option linter.unusedVariables false
set_option linter.unusedSimpArgs false
namespace Go.D.StS
open Go.D.Srt
structure HOk (g:Gr) (h:Hs):Prop where
  sl:((L h.s).length:Int)=g.n
  sv:∀ i,i<(L h.s).length→0≤(L h.s).getD i 0∧(L h.s).getD i 0≤7
  xl:(L h.x).length=(L g.edges).length
  xr:∀ j,j<(L h.x).length→(L ((L h.x).getD j none)).length=8
  xv:∀ j,j<(L h.x).length→∀ i,i<8→0≤(L ((L h.x).getD j none)).getD i 0∧(L ((L h.x).getD j none)).getD i 0≤7
theorem Uh {l:List Edg} {s:Int} {n j:Nat}:j∈frN l s n↔j<n∧(gE l j).f=s:=by
  unfold frN
  rw [List.mem_filter,List.mem_range,decide_eq_true_iff]
theorem mv_in {g:Gr} {h:Hs} (hg:GOk g) (hh:HOk g h) {x:E} (hx:InS g.n x) {e:Edg} (he:e∈mvH g h x):InS g.n (toE e):=by
  unfold mvH at he
  rw [List.mem_map] at he
  obtain ⟨j,hj,rfl⟩:=he
  rw [Uh] at hj
  have h1:=hg.el _ (List.getElem_mem hj.1)
  rw [←Vh hj.1] at h1
  have h2:=hh.xv j (by rw [hh.xl]; exact hj.1) x.2.toNat (by have:=hx.2; omega)
  exact ⟨h1.2.1,h2⟩
theorem mvH_nodup {g:Gr} {h:Hs} (hg:GOk g) (x:E):(mvH g h x).Nodup:=by
  unfold mvH
  rw [List.nodup_iff_pairwise_ne,List.pairwise_map]
  have h0:(frN (L g.edges) x.1 (L g.edges).length).Pairwise (· < ·):=List.pairwise_lt_range.filter _
  refine List.Pairwise.imp_of_mem (fun {j j'} hj hj' hlt e=>?_) h0
  rw [Uh] at hj hj'
  have hp:=List.pairwise_iff_getElem.1 hg.ep j j' hj.1 hj'.1 hlt
  rw [←Vh hj.1,←Vh hj'.1] at hp
  unfold mvE at e
  simp only [Edg.mk.injEq] at e
  rw [StT.ordE_lt] at hp
  have:=hj.2.trans hj'.2.symm
  omega
theorem mvH_len (g:Gr) (h:Hs) (x:E):(mvH g h x).length≤(L g.edges).length:=by
  unfold mvH
  rw [List.length_map]
  exact frN_len _ _ _
def iniH (g:Gr) (h:Hs):List E:=(L g.init).map fun s=>(s,(L h.s).getD s.toNat 0)
theorem ini_in {g:Gr} {h:Hs} (hg:GOk g) (hh:HOk g h):∀ x∈iniH g h,InS g.n x:=fun x hx=>by
  unfold iniH at hx
  rw [List.mem_map] at hx
  obtain ⟨s,hs,rfl⟩:=hx
  have h1:=hg.il s hs
  exact ⟨h1,hh.sv _ (by have:=hh.sl; omega)⟩
theorem ini_asc {g:Gr} {h:Hs} (hg:GOk g):Asc (iniH g h):=by
  unfold Asc iniH
  rw [List.pairwise_map]
  exact hg.ip.imp fun {a b} hlt=>.inl hlt
theorem asc_nodup {A:List E} (h:Asc A):A.Nodup:=by
  refine List.Pairwise.imp (fun {x y} h e=>?_) h
  subst e
  unfold ltB at h
  omega
theorem Vx {g:Gr} (hg:GOk g):((L g.init).length:Int)≤g.n:=by
  have h1:(L g.init).Nodup:=hg.ip.imp fun {a b} h e=>by omega
  have h2:=nodup_le (u:=(List.range g.n.toNat).map fun (k:Nat)=>(k:Int)) h1 fun v hv=>by
    have a:=hg.il v hv
    rw [List.mem_map]
    exact ⟨v.toNat,by rw [List.mem_range]; omega,by omega⟩
  simp at h2
  have:=hg.n0
  omega
structure ExtG (n:Int) (M:E→OE) (l B:List E) (E':List Edg):Prop where
  asc:Asc B
  ins:∀ x∈B,InS n x
  beg:∀ x∈l,x∈B
  cl:∀ x∈B,∀ e∈L (M x),toE e∈B
  pb:B.Perm (groM M 64 0 (Zk [] l))
  pe:E'.Perm (rawE M B 0 B)
  po:E'.Pairwise fun a b=>ordE a b<0
theorem GR.mono {lo lo':Nat} {B:List E} {is:List Int} {E':List Edg} {ix ex bx ax:DV} {σ:Qa} (h:GR lo B is E' ix ex bx ax σ) (hl:lo'≤lo):GR lo' B is E' ix ex bx ax σ:=by
  have o:∀ {n:Nat} {cs:List PV} {x:DV},Out σ lo 1 n cs x→Out σ lo' 1 n cs x:=fun {n cs x} h=>by
    refine ⟨h.1,?_⟩
    rcases h.2 with h1 | ⟨h0,r,ver,e1,e2,e3⟩
    · exact .inl h1
    · exact .inr ⟨h0,r,ver,e1,e2,by omega⟩
  have q:∀ {sz n:Nat} {cs:List PV} {x:DV},RowG σ lo sz n cs x→RowG σ lo' sz n cs x:=fun {sz n cs x} h=>by
    refine ⟨h.1,?_⟩
    rcases h.2 with h1 | ⟨h0,r,e1,e2,e3⟩
    · exact .inl h1
    · exact .inr ⟨h0,r,e1,e2,by omega⟩
  exact ⟨o h.ob,o h.oa,q h.ri,q h.re⟩
theorem GR.setLow {lo q:Nat} {B:List E} {is:List Int} {E':List Edg} {ix ex bx ax:DV} {σ:Qa} (h:GR lo B is E' ix ex bx ax σ) (hq:q<lo) (row:Row):GR lo B is E' ix ex bx ax (σ.set q row):=
  ⟨Out.setLow h.ob hq row,Out.setLow h.oa hq row,h.ri.setNe hq,h.re.setNe hq⟩
theorem GR.snoc {lo:Nat} {B:List E} {is:List Int} {E':List Edg} {ix ex bx ax:DV} {σ:Qa} (h:GR lo B is E' ix ex bx ax σ) (row:Row):GR lo B is E' ix ex bx ax (σ++[row]):=
  ⟨Out.snocM h.ob row,Out.snocM h.oa row,h.ri.snoc row,h.re.snoc row⟩
theorem out_idx {σ:Qa} {lo:Nat} {l:List E} {y:DV} (h:Out σ lo 2 l.length (Vs l) y):y.one=true∧(∀ σ,len PP 134 y σ=some (N l.length))∧∀ k,k<l.length→indexAddr PP 134 y (.p (.int .i64 (k:Nat)))=some (.pptr (Vs l) (k*2)):=by
  rcases h.2 with ⟨e,rfl⟩ | ⟨h0,r,ver,rfl,_,_⟩
  · refine ⟨rfl,fun σ=>?_,fun k hk=>by omega⟩
    rw [e]; simp [len,uL]
  · refine ⟨rfl,fun σ=>by simp [len,uL],fun k hk=>?_⟩
    have h2:(0:Int)≤(k:Int)∧(k:Int)<(l.length:Nat):=by omega
    simp [indexAddr,uL,sE,h2]
    try omega
theorem zero137:Qz PP 137=some [.p .nilsl,.p .nilfn]:=Eq.trans (by kernel_rfl) rfl
theorem load137 (x:DV) (σ:Qa):load PP 137 x σ=(Wh σ 2 x).map .agg:=Eq.trans (by kernel_rfl) rfl
theorem s135:size? PP 135=some 1:=Eq.trans (by kernel_rfl) rfl
theorem st134_0 {σ:Qa} {q:Nat} {y c v:DV} (h:σ[q]?=some (.mix [y,c])) (hv:v.one=true) (hc:v.cells=[v]):store PP 0 134 (.ptr q 0) v σ=some (σ.set q (.mix [v,c])):=by
  have e3:QS [y,c] 0 [v]=[v,c]:=rfl
  simp [store,s134,hc,Zs,h,hv,e3]
theorem st135_1 {σ:Qa} {q:Nat} {y c v:DV} (h:σ[q]?=some (.mix [y,c])) (hv:v.one=true) (hc:v.cells=[v]):store PP 0 135 (.ptr q 1) v σ=some (σ.set q (.mix [y,v])):=by
  have e3:QS [y,c] 1 [v]=[y,v]:=rfl
  simp [store,s135,hc,Zs,h,hv,e3]
theorem Out.pushE' {σ:Qa} {B n:Nat} {A:List E} {x:DV} (ho:Out σ B 2 n (Vs A) x) (hn:n≤10000000) (hB:B≤σ.length) (e:E) :
    ∃ x' σ',append PP 0 false 134 134 x (.p (.sl true 1 (celP e))) σ=some (x',σ')∧Out σ' B 2 (n+1) (Vs (A++[e])) x'∧Others σ σ' x:=by
  obtain ⟨x',σ',h1,h2,h3,h4⟩:=Out.pushG (lo:=0) (vs:=celP e) srcB u134 sE bytesB UT rfl (by decide) (by decide) (by decide) rfl ho hn hB (Nat.zero_le _)
  exact ⟨x',σ',h1,by rw [celsP_app]; exact h2,h3⟩
section
variable {g : Gr} {h : Hs} (hg : GOk g) (hh : HOk g h)
include hg hh
theorem L51 {C:Nat} {σ3:Qa} (w1:σ3[C]?=some (.mix (eGr g))) (w2:σ3[C+1]?=some (.mix (eHs h))):∀ (d k:Nat) (y:DV) (ρ:Qa),(L g.init).length-k=d→k≤(L g.init).length→(∀ j,j<C+3→ρ[j]?=σ3[j]?)→ρ[C+3]?=some (.mix [y,.p .nilfn])→Out ρ (C+4) 2 k (Vs ((iniH g h).take k)) y→
    ∃ y' ρ',f51_L0 Qb 0 (.ptr C 0) (.ptr (C+1) 0) (.ptr (C+2) 0) (.ptr (C+3) 0) (.p (eSl g.init)) (N (L g.init).length) (N k) ρ=f51_L0 Qb 0 (.ptr C 0) (.ptr (C+1) 0) (.ptr (C+2) 0) (.ptr (C+3) 0) (.p (eSl g.init)) (N (L g.init).length) (N (L g.init).length) ρ'∧
      (∀ j,j<C+3→ρ'[j]?=σ3[j]?)∧ρ'[C+3]?=some (.mix [y',.p .nilfn])∧Out ρ' (C+4) 2 (iniH g h).length (Vs (iniH g h)) y'
  | 0,k,y,ρ,hd,hk,hlow,hex,ho=>by
    have e:k=(L g.init).length:=by omega
    subst e
    have e2:(iniH g h).length=(L g.init).length:=by simp [iniH]
    refine ⟨y,ρ,rfl,hlow,hex,?_⟩
    rw [e2]
    rwa [List.take_of_length_le (by omega)] at ho
  | d+1,k,y,ρ,hd,hk,hlow,hex,ho=>by
    have hkl:k<(L g.init).length:=by omega
    have e2:(iniH g h).length=(L g.init).length:=by simp [iniH]
    have hil:=hg.il _ (List.getElem_mem hkl)
    have hn:=Vx hg
    have hn2:=hg.n0
    have hlenC:=QW hex
    generalize hs:(L g.init)[k]=s at *
    have hsl:=hh.sl
    have ix:=Wn (o:=g.init) (i:=k) hkl
    have ldk:ZG (.pptr (Qu (L g.init)) k) ρ=some (.p (.int .i64 s)):=by rw [ZF hkl,hs]
    have ixs:=idx22i (o:=h.s) (i:=s) hil.1 (by omega)
    have lds:=QD (l:=L h.s) (i:=s.toNat) (by omega) ρ
    simp only [pI] at lds
    have g1:ρ[C+1]?=some (.mix (eHs h)):=by rw [hlow _ (by omega)]; exact w2
    obtain ⟨y1,ρ1,p1,p2,p3⟩:=Out.pushE' ho (by omega) (by omega) (s,(L h.s).getD s.toNat 0)
    have e1:(iniH g h).take k++[(s,(L h.s).getD s.toNat 0)]=(iniH g h).take (k+1):=by
      rw [List.take_succ_eq_append_getElem (by omega)]
      simp only [iniH,List.getElem_map,hs]
    rw [e1] at p2
    have km:∀ (j:Nat) (row:Row),j<C+4→ρ[j]?=some row→ρ1[j]?=some row:=fun j row hj e=>p3 j row e (by
      rintro r ver sz n cs rfl rfl
      rcases ho.2 with ⟨_,e⟩ | ⟨_,r',ver',e,_,e3⟩
      · cases e
      · injection e with e; omega)
    have hex1:=km _ _ (by omega) hex
    have hst:=st134_0 hex1 (QQ p2).1 (QQ p2).2
    obtain ⟨y',ρ',r1,r2⟩:=L51 w1 w2 d (k+1) y1 (ρ1.set (C+3) (.mix [y1,.p .nilfn])) (by omega) (by omega) (fun j hj=>by
      rw [List.getElem?_set_ne (by omega)]
      have:=hlow j hj
      cases hx:σ3[j]? with
      | none=>have h1:=List.getElem?_eq_none_iff.1 hx; have h2:=QW w2; rw [hx] at this; have h3:=List.getElem?_eq_none_iff.1 this; omega
      | some row=>rw [hx] at this; exact km _ _ (by omega) this) (by rw [List.getElem?_set_self (QW hex1)]) (Out.setLow p2 (by omega) _)
    refine ⟨y',ρ',?_,r2⟩
    rw [←r1,f51_L0_eq Qb rfl]
    simp (disch:=omega) only [N,Qp,ltT,gG,ix,QJ,ldk,fa137_0,Qe,Qf,Nat.zero_add,Nat.add_zero,Qc,List.append_nil,List.singleton_append,List.cons_append,List.nil_append,Ve,Qd (off:=0) hex (v:=y) rfl,Wt,QH,Qd (off:=0) g1 (v:=.p (eSl h.s)) rfl,ixs,lds,bld102,bs134,p1,hst,add1]
theorem S51 (hn:g.n≤8) (he:(L g.edges).length≤16) (σ:Qa) :
    ∃ B E' ix ex bx ax σ' r m,CC 0 51 [.agg (eGr g),.agg (eHs h)] σ=some (.tuple [.agg [.p (pI B.length),ix,ex,bx,ax,.map r],.p (pI 0)],σ')∧ExtG g.n (fun x=>oE (mvH g h x)) (iniH g h) B E'∧
      GR (σ.length+4) B (nums B (iniH g h)) E' ix ex bx ax σ'∧(∀ j,j<σ.length→σ'[j]?=σ[j]?)∧σ'[r]?=some (.map (entZ m))∧(∀ j,j<B.length→WZ m (ge B j)=some (j:Int))∧σ.length+4≤σ'.length:=by
  obtain ⟨z4,hz4,hz4l⟩:=zero95
  have w:∀ k,(σ++[Row.mix (eGr g),.mix (eHs h),.mix z4,.mix [.p .nilsl,.p .nilfn]])[σ.length+k]?=([Row.mix (eGr g),.mix (eHs h),.mix z4,.mix [.p .nilsl,.p .nilfn]]:Qa)[k]?:=fun k=>by
    rw [List.getElem?_append_right (by omega),Nat.add_sub_cancel_left]
  obtain ⟨y,ρ,a1,a2,a3,a4⟩:=L51 hg hh (C:=σ.length) (σ3:=σ++[Row.mix (eGr g),.mix (eHs h),.mix z4,.mix [.p .nilsl,.p .nilfn]]) (w 0) (w 1) _ 0 (.p .nilsl) _ rfl (Nat.zero_le _) (fun j _=>rfl) (w 3) Out.zero
  obtain ⟨o1,o2,o3⟩:=out_idx a4
  have hst:=st135_1 (v:=.fn 83 [.ptr σ.length 0,.ptr (σ.length+1) 0]) a3 rfl rfl
  have hlr:=QW a3
  have b1:∀ j,j<σ.length+3→(ρ.set (σ.length+3) (.mix [y,.fn 83 [.ptr σ.length 0,.ptr (σ.length+1) 0]]))[j]?=(σ++[Row.mix (eGr g),.mix (eHs h),.mix z4,.mix [.p .nilsl,.p .nilfn]])[j]?:=fun j hj=>by
    rw [List.getElem?_set_ne (by omega)]; exact a2 j hj
  have b2:(ρ.set (σ.length+3) (.mix [y,.fn 83 [.ptr σ.length 0,.ptr (σ.length+1) 0]]))[σ.length+3]?=some (.mix [y,.fn 83 [.ptr σ.length 0,.ptr (σ.length+1) 0]]):=by rw [List.getElem?_set_self hlr]
  have hlρ:(ρ.set (σ.length+3) (.mix [y,.fn 83 [.ptr σ.length 0,.ptr (σ.length+1) 0]])).length=ρ.length:=by simp
  generalize hτ:ρ.set (σ.length+3) (.mix [y,.fn 83 [.ptr σ.length 0,.ptr (σ.length+1) 0]])=τ at *
  have c0:τ[σ.length]?=some (.mix (eGr g)):=(b1 _ (by omega)).trans (w 0)
  have c1:τ[σ.length+1]?=some (.mix (eHs h)):=(b1 _ (by omega)).trans (w 1)
  have c2:τ[σ.length+2]?=some (.mix z4):=(b1 _ (by omega)).trans (w 2)
  have hI0:IG g.n (Zk [] (iniH g h)):=⟨addAll_nodup _ _ List.nodup_nil,fun x hx=>by
    rcases (WH _ _ _).1 hx with h1 | h1
    · exact absurd h1 (by simp)
    · exact ini_in hg hh x h1⟩
  have hIM:∀ A x,IG g.n A→x∈A→IG g.n (Zk A ((L (oE (mvH g h x))).map toE)):=fun A x hA hx=>⟨addAll_nodup _ _ hA.nd,fun v hv=>by
    rcases (WH _ _ _).1 hv with h1 | h1
    · exact hA.ir v h1
    · rw [L_oE,List.mem_map] at h1
      obtain ⟨e,he,rfl⟩:=h1
      exact mv_in hg hh (hA.ir x hx) he⟩
  obtain ⟨k1,k2,k3⟩:=groM_closed (M:=fun x=>oE (mvH g h x)) (K:=64) (fun A hA=>IG.len hA hn) hIM 64 0 _ hI0 (by omega) (fun j hj=>by omega)
  have hil:=Vx hg
  have e2:(iniH g h).length=(L g.init).length:=by simp [iniH]
  obtain ⟨B,E',ix,ex,bx,ax,σ',m,d1,d2,d3,d4,d5,d6,d7,d8,d9,d10⟩:=gr_main (σ0:=τ) (mv:=83) (caps:=[.ptr σ.length 0,.ptr (σ.length+1) 0]) o1 o2 o3 (fun x=>oE (mvH g h x)) (InS g.n) 64 (by decide)
    (fun x hx ρ hρ=>S83 ((hρ _ (QW c0)).trans c0) ((hρ _ (QW c1)).trans c1) (by omega) hh.xl hh.xr hx.2) (fun x _=>by rw [L_oE]; have:=mvH_len g h x; omega)
    (IG g.n) (fun A hA=>hA.ir) (fun A hA=>⟨IG.len hA hn,hA.nd⟩) hIM hI0 (by omega) (ini_asc hg) k3 (fun x hx=>k2.subset ((WH _ _ _).2 (.inr hx)))
    (fun B hB hB2=>by
      refine ⟨rawE_nodup B 0 (fun x _=>by rw [L_oE]; exact mvH_nodup hg x) (fun x hx e he=>hB.mem_iff.2 (k3 x (hB.mem_iff.1 hx) e he)),?_⟩
      have h1:=rawE_len (M:=fun x=>oE (mvH g h x)) (B:=B) (c:=16) B 0 (fun x _=>by rw [L_oE]; have:=mvH_len g h x; omega)
      have h2:=hB.length_eq
      have h3:=IG.len k1 hn
      omega)
  have hBm:∀ x,x∈B↔x∈groM (fun x=>oE (mvH g h x)) 64 0 (Zk [] (iniH g h)):=fun x=>d2.mem_iff
  have hz:σ'[σ.length+2]?=some (.mix z4):=(d7 _ (QW c2)).trans c2
  have hone:([.p (pI B.length),ix,ex,bx,ax,.map (τ.length+2)]:List DV).all DV.one=true:=by
    simp [(Wf d6.re).1,(Wf d6.ri).1,(QQ d6.ob).1,(QQ d6.oa).1]
    exact ⟨rfl,rfl⟩
  have hst2:=st95 (c:=[.p (pI B.length),ix,ex,bx,ax,.map (τ.length+2)]) hz hz4l rfl hone
  have hcv:Vt PP 95 (.ptr (σ.length+2) 0) (σ'.set (σ.length+2) (.mix [.p (pI B.length),ix,ex,bx,ax,.map (τ.length+2)]))=some (.agg [.p (pI B.length),ix,ex,bx,ax,.map (τ.length+2)]):=by
    have hg:(σ'.set (σ.length+2) (.mix [.p (pI B.length),ix,ex,bx,ax,.map (τ.length+2)]))[σ.length+2]?=some (.mix [.p (pI B.length),ix,ex,bx,ax,.map (τ.length+2)]):=by rw [List.getElem?_set_self (QW hz)]
    rw [Ww,load95,QK (vs:=[.p (pI B.length),ix,ex,bx,ax,.map (τ.length+2)]) hg rfl (by simp)]; rfl
  refine ⟨B,E',ix,ex,bx,ax,σ'.set (σ.length+2) (.mix [.p (pI B.length),ix,ex,bx,ax,.map (τ.length+2)]),τ.length+2,m,F51_call ?_,
    ⟨d3,fun x hx=>k1.ir x ((hBm x).1 hx),fun x hx=>(hBm x).2 (k2.subset ((WH _ _ _).2 (.inr hx))),fun x hx e he=>(hBm _).2 (k3 x ((hBm x).1 hx) e he),d2,d4,d5⟩,
    (d6.mono (by omega)).setLow (by omega) _,fun j hj=>?_,Qv d8 (by omega),d9,by rw [List.length_set]; omega⟩
  · have hb1:boxV (.agg (eGr g))=some (eGr g):=rfl
    have hb2:boxV (.agg (eHs h))=some (eHs h):=rfl
    have hl1:(σ++[Row.mix (eGr g)]).length=σ.length+1:=by simp
    have hl2:((σ++[Row.mix (eGr g)])++[Row.mix (eHs h)]).length=σ.length+2:=by simp
    have hl3:(((σ++[Row.mix (eGr g)])++[Row.mix (eHs h)])++[Row.mix z4]).length=σ.length+3:=by simp
    have hsσ:((((σ++[Row.mix (eGr g)])++[Row.mix (eHs h)])++[Row.mix z4])++[Row.mix [.p .nilsl,.p .nilfn]])=σ++[Row.mix (eGr g),.mix (eHs h),.mix z4,.mix [.p .nilsl,.p .nilfn]]:=by simp
    have hld:load PP 137 (.ptr (σ.length+3) 0) τ=some (.agg [y,.fn 83 [.ptr σ.length 0,.ptr (σ.length+1) 0]]):=by
      rw [load137,QK (vs:=[y,.fn 83 [.ptr σ.length 0,.ptr (σ.length+1) 0]]) b2 rfl (by simp)]; rfl
    have w0:(σ++[Row.mix (eGr g),.mix (eHs h),.mix z4,.mix [.p .nilsl,.p .nilfn]])[σ.length]?=some (.mix (eGr g)):=w 0
    rw [F51_eq]
    simp only [hb1,hb2,hz4,zero137,gG,hl1,hl2,hl3,hsσ,WA,Qe,Qf,Nat.zero_add,Nat.add_zero,Qc,List.append_nil,List.singleton_append,List.cons_append,List.nil_append,QH,Qd (off:=1) w0 (v:=.p (eSl g.init)) rfl,QP]
    refine a1.trans ?_
    rw [f51_L0_eq Qb rfl]
    simp (disch:=omega) only [N,Qp,ltF,gG,fa137_1,Qe,Qf,Nat.zero_add,Nat.add_zero,Qc,List.append_nil,List.singleton_append,List.cons_append,List.nil_append,hst,hld,Qs,d1,ex0,ex1,hst2,hcv]
  · rw [List.getElem?_set_ne (by omega),d7 j (by have:=QW c0; omega),b1 j (by omega),List.getElem?_append_left hj]
end
end Go.D.StS
end
/- Equations of functions 6, 10, 11, 14, 17, 18, 52, printed by gen.py. -/
section
set_option linter.unusedVariables false
set_option maxRecDepth 10000
namespace Go.D
open Go.Proofs
noncomputable section
variable (G:Qh) (lo:Nat) {σ:Qa} {r:DV×Qa}
open _root_.Go.D.Code (fstC sndC)
open _root_.Go.D.Ann (left right)
def c10_0:Code:=Qw Tryz.f10
def a10_0:Ann:=(pol 10).ann
def F10 (a:DV) (σ:Qa):RS:=
 Qo G PP (pol 10) CC lo c10_0 a10_0 (a::zn 34 []) σ (finR PP Tryz.f10.results.toList)
theorem F10_eq (G:Qh) (lo:Nat) (a:DV) (σ:Qa):F10 G lo a σ =
 (boxV a).bind fun z1=>
 (fieldAddr PP 25 (DV.ptr (List.length σ) 0) 0).bind fun d=>
 (load PP 3 d (σ++[Row.mix z1])).bind fun f=>
 (binOp PP .leq 3 f (DV.p (PV.int IntKind.i64 (8)))).bind fun m=>
 Gp G m false (fieldAddr PP 25 (DV.ptr (List.length σ) 0) 0) (σ++[Row.mix z1]) fun F σ1=>
 Gp G m false (load PP 3 F σ1) σ1 fun l σ2=>
 Gp G m false (binOp PP .gtr 3 l (DV.p (PV.int IntKind.i64 (30)))) σ2 fun i σ3=>
 (Qt m (DV.p (PV.bool true)) i).bind fun g=>
 Gp G g true (fieldAddr PP 25 (DV.ptr (List.length σ) 0) 1) σ3 fun k σ4=>
 Gp G g true (load PP 22 k σ4) σ4 fun q σ5=>
 Gp G g true (len PP 22 q σ5) σ5 fun w σ6=>
 Gp G g true (binOp PP .leq 3 w (DV.p (PV.int IntKind.i64 (40)))) σ6 fun z σ7=>
 (Qt g z (DV.p (PV.bool false))).bind fun U=>
 Gp G U true (fieldAddr PP 25 (DV.ptr (List.length σ) 0) 2) σ7 fun R σ8=>
 Gp G U true (load PP 23 R σ8) σ8 fun av σ9=>
 Gp G U true (len PP 23 av σ9) σ9 fun L σ10=>
 Gp G U true (binOp PP .leq 3 L (DV.p (PV.int IntKind.i64 (16)))) σ10 fun t σ11=>
 G _ U true (some (t,σ11)) σ11 fun o σ12=>
 Gp G o false (fieldAddr PP 25 (DV.ptr (List.length σ) 0) 2) σ12 fun u σ13=>
 Gp G o false (load PP 23 u σ13) σ13 fun I σ14=>
 Gp G o false (len PP 23 I σ14) σ14 fun A σ15=>
 Gp G o false (binOp PP .gtr 3 A (DV.p (PV.int IntKind.i64 (120)))) σ15 fun ah σ16=>
 G _ o false (some (ah,σ16)) σ16 fun W σ17=>
 Gp G W true (fieldAddr PP 25 (DV.ptr (List.length σ) 0) 2) σ17 fun au σ18=>
 Gp G W true (load PP 23 au σ18) σ18 fun af σ19=>
 Gp G W true (len PP 23 af σ19) σ19 fun ak σ20=>
 Gp G W true (binOp PP .leq 3 ak (DV.p (PV.int IntKind.i64 (122)))) σ20 fun E σ21=>
 Gp G o false (Qt W E (DV.p (PV.bool false))) σ21 fun H σ22=>
 Gp G U true (Qt o (DV.p (PV.bool true)) H) σ22 fun ae σ23=>
 (Qt U ae (DV.p (PV.bool false))).bind fun X=>
 some (X,σ23):=by kernel_rfl
theorem F10_call {lo:Nat} {a:DV} (h:F10 Qb lo a σ=some r):CC lo 10 [a] σ=some r:=
 callL_run Tryz.func10 (by decide +kernel) rfl (by decide +kernel) h
def c11_0:Code:=Qw Tryz.f11
def a11_0:Ann:=(pol 11).ann
def a11_13:Ann:=right (left (right (right a11_0)))
def a11_14:Ann:=left a11_13
def c11_15:Code:=fstC (fstC (sndC (fstC (sndC (sndC c11_0)))))
def c11_31:Code:=sndC (sndC (sndC c11_0))
def a11_31:Ann:=right (right (right a11_0))
def f11_L0 (a d:DV) (σ:Qa):RS:=
 Qo G PP (pol 11) CC lo (.loop c11_15) a11_14 (a::Z::Z::d::zn 15 []) σ
 (Qk 0 a11_13 (seqC G PP (pol 11) CC lo c11_31 a11_31 (finR PP Tryz.f11.results.toList)))
def F11 (a:DV) (σ:Qa):RS:=
 Qo G PP (pol 11) CC lo c11_0 a11_0 (a::zn 18 []) σ (finR PP Tryz.f11.results.toList)
theorem f11_L0_eq (G:Qh) (hG:Qq G) (lo:Nat) (a d:DV) (σ:Qa):f11_L0 G lo a d σ =
 (len PP 26 a σ).bind fun i=>
 (binOp PP .lss 3 d i).bind fun g=>
 Qj g
 (
 (indexAddr PP 26 a d).bind fun z=>
 (load PP 22 z σ).bind fun U=>
 (len PP 22 U σ).bind fun O=>
 (binOp PP .gtr 3 O (DV.p (PV.int IntKind.i64 (10)))).bind fun R=>
 Qj R
 (
 some ((DV.p (PV.bool false)),σ)
 )
 (
 (binOp PP .add 3 d I1).bind fun k=>
 f11_L0 G lo a k σ
 )
 )
 (
 some ((DV.p (PV.bool true)),σ)
 ):=(Qm G hG).trans (by kernel_rfl)
theorem F11_eq (G:Qh) (lo:Nat) (a:DV) (σ:Qa):F11 G lo a σ =
 (len PP 26 a σ).bind fun m=>
 (binOp PP .gtr 3 m (DV.p (PV.int IntKind.i64 (130)))).bind fun K=>
 Qj K
 (
 some ((DV.p (PV.bool false)),σ)
 )
 (
 f11_L0 G lo a I0 σ
 ):=by kernel_rfl
theorem F11_call {lo:Nat} {a:DV} (h:F11 Qb lo a σ=some r):CC lo 11 [a] σ=some r:=
 callL_run Tryz.func11 (by decide +kernel) rfl (by decide +kernel) h
def c14_0:Code:=Qw Tryz.f14
def a14_0:Ann:=(pol 14).ann
def F14 (a:DV) (σ:Qa):RS:=
 Qo G PP (pol 14) CC lo c14_0 a14_0 (a::zn 9 []) σ (finR PP Tryz.f14.results.toList)
theorem F14_eq (G:Qh) (lo:Nat) (a:DV) (σ:Qa):F14 G lo a σ =
 (boxV a).bind fun z1=>
 (Qz PP 28).bind fun z2=>
 (fieldAddr PP 28 (DV.ptr (List.length σ) 0) 0).bind fun d=>
 (load PP 22 d ((σ++[Row.mix z1])++[Row.mix z2])).bind fun f=>
 (Qi CC (DV.fn 16 []) [f] ((σ++[Row.mix z1])++[Row.mix z2])).bind fun m=>
 (fieldAddr PP 28 (DV.ptr (List.length σ) 0) 1).bind fun K=>
 (load PP 26 K ((σ++[Row.mix z1])++[Row.mix z2])).bind fun F=>
 (Qi CC (DV.fn 52 []) [F] ((σ++[Row.mix z1])++[Row.mix z2])).bind fun l=>
 (build PP 28 [(0,m),(1,l)]).bind fun i=>
 (store PP lo 28 (DV.ptr (List.length (σ++[Row.mix z1])) 0) i ((σ++[Row.mix z1])++[Row.mix z2])).bind fun σ1=>
 (Vt PP 28 (DV.ptr (List.length (σ++[Row.mix z1])) 0) σ1).bind fun v0=>
 some (v0,σ1):=by kernel_rfl
theorem F14_call {lo:Nat} {a:DV} (h:F14 Qb lo a σ=some r):CC lo 14 [a] σ=some r:=
 callL_run Tryz.func14 (by decide +kernel) rfl (by decide +kernel) h
def c17_0:Code:=Qw Tryz.f17
def a17_0:Ann:=(pol 17).ann
def a17_21:Ann:=right (left (right (right (right a17_0))))
def a17_22:Ann:=left a17_21
def c17_23:Code:=fstC (fstC (sndC (fstC (sndC (sndC (sndC c17_0))))))
def c17_39:Code:=sndC (sndC (sndC (sndC c17_0)))
def a17_39:Ann:=right (right (right (right a17_0)))
def f17_L0 (b d:DV) (σ:Qa):RS:=
 Qo G PP (pol 17) CC lo (.loop c17_23) a17_22 (Z::b::Z::d::zn 26 []) σ
 (Qk 0 a17_21 (seqC G PP (pol 17) CC lo c17_39 a17_39 (finR PP Tryz.f17.results.toList)))
def F17 (a:DV) (σ:Qa):RS:=
 Qo G PP (pol 17) CC lo c17_0 a17_0 (a::zn 29 []) σ (finR PP Tryz.f17.results.toList)
theorem f17_L0_eq (G:Qh) (hG:Qq G) (lo:Nat) (b d:DV) (σ:Qa):f17_L0 G lo b d σ =
 (fieldAddr PP 25 b 2).bind fun O=>
 (load PP 23 O σ).bind fun R=>
 (len PP 23 R σ).bind fun av=>
 (binOp PP .lss 3 d av).bind fun L=>
 Qj L
 (
 (fieldAddr PP 25 b 2).bind fun u=>
 (load PP 23 u σ).bind fun I=>
 (indexAddr PP 23 I d).bind fun ah=>
 (fieldAddr PP 69 ah 2).bind fun W=>
 (load PP 3 W σ).bind fun au=>
 (binOp PP .eql 3 au (DV.p (PV.int IntKind.i64 (11)))).bind fun af=>
 Qj af
 (
 some ((DV.p (PV.int IntKind.i64 (3))),σ)
 )
 (
 (binOp PP .add 3 d I1).bind fun o=>
 f17_L0 G lo b o σ
 )
 )
 (
 some (I0,σ)
 ):=(Qm G hG).trans (by kernel_rfl)
theorem F17_eq (G:Qh) (lo:Nat) (a:DV) (σ:Qa):F17 G lo a σ =
 (boxV a).bind fun z1=>
 (load PP 25 (DV.ptr (List.length σ) 0) (σ++[Row.mix z1])).bind fun f=>
 (Qi CC (DV.fn 56 []) [f] (σ++[Row.mix z1])).bind fun m=>
 (unOp .not m).bind fun K=>
 Qj K
 (
 some ((DV.p (PV.int IntKind.i64 (5))),(σ++[Row.mix z1]))
 )
 (
 (fieldAddr PP 25 (DV.ptr (List.length σ) 0) 0).bind fun F=>
 (load PP 3 F (σ++[Row.mix z1])).bind fun l=>
 (binOp PP .gtr 3 l (DV.p (PV.int IntKind.i64 (30)))).bind fun i=>
 Gp G i false (fieldAddr PP 25 (DV.ptr (List.length σ) 0) 2) (σ++[Row.mix z1]) fun j σ1=>
 Gp G i false (load PP 23 j σ1) σ1 fun k σ2=>
 Gp G i false (len PP 23 k σ2) σ2 fun q σ3=>
 Gp G i false (binOp PP .gtr 3 q (DV.p (PV.int IntKind.i64 (120)))) σ3 fun w σ4=>
 (Qt i (DV.p (PV.bool true)) w).bind fun z=>
 Qj z
 (
 some ((DV.p (PV.int IntKind.i64 (2))),σ4)
 )
 (
 f17_L0 G lo (DV.ptr (List.length σ) 0) I0 σ4
 )
 ):=by kernel_rfl
theorem F17_call {lo:Nat} {a:DV} (h:F17 Qb lo a σ=some r):CC lo 17 [a] σ=some r:=
 callL_run Tryz.func17 (by decide +kernel) rfl (by decide +kernel) h
def c18_0:Code:=Qw Tryz.f18
def a18_0:Ann:=(pol 18).ann
def a18_13:Ann:=right (left (right (right a18_0)))
def a18_14:Ann:=left a18_13
def c18_15:Code:=fstC (fstC (sndC (fstC (sndC (sndC c18_0)))))
def c18_31:Code:=sndC (sndC (sndC c18_0))
def a18_31:Ann:=right (right (right a18_0))
def a18_42:Ann:=right (left (right a18_31))
def a18_43:Ann:=left a18_42
def c18_44:Code:=fstC (fstC (sndC (fstC (sndC c18_31))))
def a18_51:Ann:=left (right (left a18_43))
def a18_62:Ann:=right (right (left a18_51))
def a18_63:Ann:=left a18_62
def c18_64:Code:=fstC (fstC (sndC (sndC (fstC (fstC (sndC c18_44))))))
def c18_80:Code:=sndC (sndC c18_44)
def a18_80:Ann:=right (right (left a18_43))
def c18_81:Code:=sndC (sndC c18_31)
def a18_81:Ann:=right (right a18_31)
def f18_L0 (c d m:DV) (σ:Qa):RS:=
 Qo G PP (pol 18) CC lo (.loop c18_15) a18_14 (Z::Z::c::d::Z::m::zn 63 []) σ
 (Qk 0 a18_13 (seqC G PP (pol 18) CC lo c18_31 a18_31 (finR PP Tryz.f18.results.toList)))
def f18_L1 (d K:DV) (σ:Qa):RS:=
 Qo G PP (pol 18) CC lo (.loop c18_44) a18_43 (Z::Z::Z::d::Z::Z::K::zn 62 []) σ
 (Qk 2 a18_42 (seqC G PP (pol 18) CC lo c18_81 a18_81 (finR PP Tryz.f18.results.toList)))
def f18_L2 (d K F:DV) (σ:Qa):RS:=
 Qo G PP (pol 18) CC lo (.loop c18_64) a18_63 (Z::Z::Z::d::Z::Z::K::F::zn 61 []) σ
 (Qk 4 a18_62 (Qk 3 a18_51 (seqC G PP (pol 18) CC lo c18_80 a18_80 (QY G PP (pol 18) CC lo c18_44 a18_43 (Qk 2 a18_42 (seqC G PP (pol 18) CC lo c18_81 a18_81 (finR PP Tryz.f18.results.toList)))))))
def F18 (a b:DV) (σ:Qa):RS:=
 Qo G PP (pol 18) CC lo c18_0 a18_0 (a::b::zn 67 []) σ (finR PP Tryz.f18.results.toList)
theorem f18_L0_eq (G:Qh) (hG:Qq G) (lo:Nat) (c d m:DV) (σ:Qa):f18_L0 G lo c d m σ =
 (fieldAddr PP 28 d 0).bind fun z=>
 (load PP 22 z σ).bind fun U=>
 (len PP 22 U σ).bind fun O=>
 (binOp PP .lss 3 m O).bind fun R=>
 Qj R
 (
 (fieldAddr PP 28 d 0).bind fun t=>
 (load PP 22 t σ).bind fun o=>
 (indexAddr PP 22 o m).bind fun I=>
 (load PP 3 I σ).bind fun A=>
 (Qi CC (DV.fn 57 []) [A] σ).bind fun ah=>
 (unOp .not ah).bind fun W=>
 Qj W
 (
 some ((DV.p (PV.int IntKind.i64 (3))),σ)
 )
 (
 (binOp PP .add 3 m I1).bind fun L=>
 f18_L0 G lo c d L σ
 )
 )
 (
 (fieldAddr PP 28 d 1).bind fun au=>
 (load PP 26 au σ).bind fun af=>
 (len PP 26 af σ).bind fun ak=>
 (fieldAddr PP 25 c 2).bind fun E=>
 (load PP 23 E σ).bind fun H=>
 (len PP 23 H σ).bind fun ae=>
 (binOp PP .neq 3 ak ae).bind fun X=>
 Qj X
 (
 some ((DV.p (PV.int IntKind.i64 (6))),σ)
 )
 (
 f18_L1 G lo d I0 σ
 )
 ):=(Qm G hG).trans (by kernel_rfl)
theorem f18_L1_eq (G:Qh) (hG:Qq G) (lo:Nat) (d K:DV) (σ:Qa):f18_L1 G lo d K σ =
 (fieldAddr PP 28 d 1).bind fun aj=>
 (load PP 26 aj σ).bind fun ar=>
 (len PP 26 ar σ).bind fun aa=>
 (binOp PP .lss 3 K aa).bind fun J=>
 Qj J
 (
 (fieldAddr PP 28 d 1).bind fun B=>
 (load PP 26 B σ).bind fun V=>
 (indexAddr PP 26 V K).bind fun P=>
 (load PP 22 P σ).bind fun y=>
 (len PP 22 y σ).bind fun Q=>
 (binOp PP .neq 3 Q (DV.p (PV.int IntKind.i64 (8)))).bind fun M=>
 Qj M
 (
 some ((DV.p (PV.int IntKind.i64 (6))),σ)
 )
 (
 f18_L2 G lo d K I0 σ
 )
 )
 (
 some (I0,σ)
 ):=(Qm G hG).trans (by kernel_rfl)
theorem f18_L2_eq (G:Qh) (hG:Qq G) (lo:Nat) (d K F:DV) (σ:Qa):f18_L2 G lo d K F σ =
 (fieldAddr PP 28 d 1).bind fun aw=>
 (load PP 26 aw σ).bind fun bb=>
 (indexAddr PP 26 bb K).bind fun S=>
 (load PP 22 S σ).bind fun T=>
 (len PP 22 T σ).bind fun am=>
 (binOp PP .lss 3 F am).bind fun be=>
 Qj be
 (
 (fieldAddr PP 28 d 1).bind fun bc=>
 (load PP 26 bc σ).bind fun az=>
 (indexAddr PP 26 az K).bind fun bv=>
 (load PP 22 bv σ).bind fun bj=>
 (indexAddr PP 22 bj F).bind fun br=>
 (load PP 3 br σ).bind fun bf=>
 (Qi CC (DV.fn 57 []) [bf] σ).bind fun b8=>
 (unOp .not b8).bind fun cb=>
 Qj cb
 (
 some ((DV.p (PV.int IntKind.i64 (3))),σ)
 )
 (
 (binOp PP .add 3 F I1).bind fun ao=>
 f18_L2 G lo d K ao σ
 )
 )
 (
 (binOp PP .add 3 K I1).bind fun x=>
 f18_L1 G lo d x σ
 ):=(Qm G hG).trans (by kernel_rfl)
theorem F18_eq (G:Qh) (lo:Nat) (a b:DV) (σ:Qa):F18 G lo a b σ =
 (boxV a).bind fun z2=>
 (boxV b).bind fun z3=>
 (fieldAddr PP 28 (DV.ptr (List.length (σ++[Row.mix z2])) 0) 0).bind fun l=>
 (load PP 22 l ((σ++[Row.mix z2])++[Row.mix z3])).bind fun i=>
 (len PP 22 i ((σ++[Row.mix z2])++[Row.mix z3])).bind fun g=>
 (fieldAddr PP 25 (DV.ptr (List.length σ) 0) 0).bind fun j=>
 (load PP 3 j ((σ++[Row.mix z2])++[Row.mix z3])).bind fun k=>
 (binOp PP .neq 3 g k).bind fun q=>
 Qj q
 (
 some ((DV.p (PV.int IntKind.i64 (6))),((σ++[Row.mix z2])++[Row.mix z3]))
 )
 (
 f18_L0 G lo (DV.ptr (List.length σ) 0) (DV.ptr (List.length (σ++[Row.mix z2])) 0) I0 ((σ++[Row.mix z2])++[Row.mix z3])
 ):=by kernel_rfl
theorem F18_call {lo:Nat} {a b:DV} (h:F18 Qb lo a b σ=some r):CC lo 18 [a,b] σ=some r:=
 callL_run Tryz.func18 (by decide +kernel) rfl (by decide +kernel) h
def c52_0:Code:=Qw Tryz.f52
def a52_0:Ann:=(pol 52).ann
def a52_7:Ann:=right (left (right (right a52_0)))
def a52_8:Ann:=left a52_7
def c52_9:Code:=fstC (fstC (sndC (fstC (sndC (sndC c52_0)))))
def c52_19:Code:=sndC (sndC (sndC c52_0))
def a52_19:Ann:=right (right (right a52_0))
def f52_L0 (a d f:DV) (σ:Qa):RS:=
 Qo G PP (pol 52) CC lo (.loop c52_9) a52_8 (a::Z::Z::d::f::zn 15 []) σ
 (Qk 0 a52_7 (seqC G PP (pol 52) CC lo c52_19 a52_19 (finR PP Tryz.f52.results.toList)))
def F52 (a:DV) (σ:Qa):RS:=
 Qo G PP (pol 52) CC lo c52_0 a52_0 (a::zn 19 []) σ (finR PP Tryz.f52.results.toList)
theorem f52_L0_eq (G:Qh) (hG:Qq G) (lo:Nat) (a d f:DV) (σ:Qa):f52_L0 G lo a d f σ =
 (len PP 26 a σ).bind fun F=>
 (binOp PP .lss 3 f F).bind fun l=>
 Qj l
 (
 (indexAddr PP 26 a f).bind fun w=>
 (load PP 22 w σ).bind fun z=>
 (Qi CC (DV.fn 16 []) [z] σ).bind fun U=>
 (buildSlice PP none 26 1 [(0,U)] σ).bind fun r17_1=>
 (append PP lo false 26 26 d r17_1.1 r17_1.2).bind fun r18_2=>
 (binOp PP .add 3 f I1).bind fun g=>
 f52_L0 G lo a r18_2.1 g r18_2.2
 )
 (
 some (d,σ)
 ):=(Qm G hG).trans (by kernel_rfl)
theorem F52_eq (G:Qh) (lo:Nat) (a:DV) (σ:Qa):F52 G lo a σ =
 f52_L0 G lo a (DV.p PV.nilsl) I0 σ:=by kernel_rfl
theorem F52_call {lo:Nat} {a:DV} (h:F52 Qb lo a σ=some r):CC lo 52 [a] σ=some r:=
 callL_run Tryz.func52 (by decide +kernel) rfl (by decide +kernel) h
end
end Go.D
end
/- Chapter 22: the errors of graphs and history variables, in the program and in its reference. -/
section
set_option linter.unusedVariables false
set_option linter.unusedSimpArgs false
namespace Go.D.StS
open Go.D.Srt
def tk (e:Edg):Bool:=decide (e.a=11)
def errG (g:Gr):Int:=if isG g=true then (if g.n≤30∧(L g.edges).length≤120 then (if (L g.edges).any tk=true then 3 else 0) else 2) else 5
def VF (l:OI):Int:=if (L l).length=8 then (if (L l).any bA=true then 3 else 0) else 6
def Wp:List OI→Int
  | []=>0
  | a::l=>if VF a=0 then Wp l else VF a
def US (g:Gr) (h:Hs):Int:=if ((L h.s).length:Int)=g.n then (if (L h.s).any bA=true then 3 else if (L h.x).length=(L g.edges).length then Wp (L h.x) else 6) else 6
def fewB (g:Gr):Bool:=(decide (g.n≤8)||decide (g.n>30))&&(decide ((L g.init).length≤40)&&(decide ((L g.edges).length≤16)||(decide ((L g.edges).length>120)&&decide ((L g.edges).length≤122))))
def briB (l:List OI):Bool:=decide (l.length≤130)&&l.all fun o=>decide ((L o).length≤10)
theorem Zx (g:Gr):view (.agg (eGr g))=.agg (eGr g):=by simp [view,Zv,eGr,ZE,WQ,Zp]
theorem loosens_sls (l:List OI):QN (l.map eSl)=l.map eSl:=by
  induction l with
  | nil=>rfl
  | cons a l ih=>simp only [List.map_cons,QN,ih,ZE]
theorem loosen_ls (o:Option (List OI)):Zp (eLs o)=eLs o:=by
  cases o with
  | none=>rfl
  | some l=>simp [eLs,Zp,loosens_sls]
theorem ls_view (o:Option (List OI)):view (.p (eLs o))=.p (eLs o):=by simp [view,Zv,loosen_ls]
theorem VD (h:Hs):view (.agg (eHs h))=.agg (eHs h):=by simp [view,Zv,eHs,ZE,loosen_ls]
theorem Zo (g:Gr):boxV (.agg (eGr g))=some (eGr g):=rfl
theorem Wx (h:Hs):boxV (.agg (eHs h))=some (eHs h):=rfl
theorem S10 {g:Gr} {σ:Qa}:Qx CC 10 [.agg (eGr g)] σ=some (.p (.bool (fewB g))):=by
  have g0:([Row.mix (eGr g)]:Qa)[0]?=some (.mix (eGr g)):=rfl
  refine Qn (by simp [Zx]) rfl (F10_call (r:=(.p (.bool (fewB g)),[.mix (eGr g)])) ?_) rfl
  rw [F10_eq]
  have q0:decide (((L g.init).length:Int)≤40)=decide ((L g.init).length≤40):=by rw [decide_eq_decide]; omega
  have q1:decide (((L g.edges).length:Int)≤16)=decide ((L g.edges).length≤16):=by rw [decide_eq_decide]; omega
  have q2:decide (((L g.edges).length:Int)>120)=decide ((L g.edges).length>120):=by rw [decide_eq_decide]; omega
  have q3:decide (((L g.edges).length:Int)≤122)=decide ((L g.edges).length≤122):=by rw [decide_eq_decide]; omega
  unfold fewB
  cases e1:decide (g.n≤8) <;> cases e2:decide (g.n>30) <;> cases e3:decide ((L g.init).length≤40) <;> cases e4:decide ((L g.edges).length≤16) <;> cases e5:decide ((L g.edges).length>120) <;> cases e6:decide ((L g.edges).length≤122) <;>
    simp only [Zo,gG,List.length_nil,List.nil_append,ZP,WA,Zj,Qe,Qf,Nat.zero_add,Nat.add_zero,Qc,List.append_nil,List.singleton_append,List.cons_append,List.nil_append,QJ,QH,Zh,Qd (off:=0) g0 (v:=.p (.int .i64 g.n)) rfl,Qd (off:=1) g0 (v:=.p (eSl g.init)) rfl,Qd (off:=2) g0 (v:=.p (eEs g.edges)) rfl,QP,Wz,Za,Zi,q0,q1,q2,q3,e1,e2,e3,e4,e5,e6,
      Bool.or_true,Bool.or_false,Bool.true_or,Bool.false_or,Bool.and_true,Bool.and_false,Bool.true_and,Bool.false_and]
theorem L11 {o:Option (List OI)} {σ:Qa} (lo:Nat) (hl:(L o).length≤1000):∀ (d i:Nat),(L o).length-i=d→i≤(L o).length→
    f11_L0 Qb lo (.p (eLs o)) (N i) σ=some (.p (.bool (((L o).drop i).all fun q=>decide ((L q).length≤10))),σ)
  | 0,i,hd,hi=>by
    rw [f11_L0_eq Qb rfl,List.drop_of_length_le (by omega)]
    simp (disch:=omega) only [N,Ut,Qp,ltF,gG]
    rfl
  | d+1,i,hd,hi=>by
    have hil:i<(L o).length:=by omega
    have ih:=L11 (σ:=σ) lo hl d (i+1) (by omega) (by omega)
    have e0:(L o).drop i=(L o).getD i none::(L o).drop (i+1):=by rw [QZ none hil]; exact List.drop_eq_getElem_cons hil
    rw [f11_L0_eq Qb rfl,e0,List.all_cons]
    by_cases h10:(L ((L o).getD i none)).length≤10
    · have q:¬ (((L ((L o).getD i none)).length:Int)>10):=by omega
      simp (disch:=omega) only [N,Ut,Qp,ltT,gG,Uz,QH,ldLs hil,QP,Zi,gtF q,add1,decide_eq_true h10,Bool.true_and]
      exact ih
    · have q:(((L ((L o).getD i none)).length:Int)>10):=by omega
      simp (disch:=omega) only [N,Ut,Qp,ltT,gG,Uz,QH,ldLs hil,QP,Zi,gtT q,decide_eq_false h10,Bool.false_and]
theorem S11 {o:Option (List OI)} {σ:Qa}:Qx CC 11 [.p (eLs o)] σ=some (.p (.bool (briB (L o)))):=by
  refine Qn (by simp [ls_view]) rfl (F11_call (r:=(.p (.bool (briB (L o))),[])) ?_) rfl
  rw [F11_eq]
  unfold briB
  by_cases h:(L o).length≤130
  · have q:¬ (((L o).length:Int)>130):=by omega
    simp only [Ut,Zi,gtF q,gG,decide_eq_true h,Bool.true_and]
    have:=L11 (σ:=[]) 0 (show (L o).length≤1000 by omega) _ 0 rfl (Nat.zero_le _)
    rwa [List.drop_zero] at this
  · have q:(((L o).length:Int)>130):=by omega
    simp only [Ut,Zi,gtT q,gG,decide_eq_false h,Bool.false_and]
theorem S107 (e:Edg) (σ:Qa):Qx CC 107 [.agg (edgD e)] σ=some (.p (.bool (tk e))):=by
  have g0:([Row.mix (edgD e)]:Qa)[0]?=some (.mix (edgD e)):=rfl
  have hb:boxV (.agg (edgD e))=some (edgD e):=rfl
  refine Qn rfl rfl (F107_call (r:=(.p (.bool (tk e)),[.mix (edgD e)])) ?_) rfl
  rw [F107_eq]
  simp only [hb,gG,List.length_nil,List.nil_append,Uf,Qe,Qf,Nat.zero_add,Nat.add_zero,Qc,List.append_nil,List.singleton_append,List.cons_append,List.nil_append,QJ,Qd (off:=2) g0 (v:=.p (.int .i64 e.a)) rfl,Zc]
  rfl
section
variable {g : Gr} (hi : (L g.init).length ≤ 1000) (he : (L g.edges).length ≤ 10000)
include hi he
theorem S81 (σ:Qa):Qx CC 81 [.agg (eGr g)] σ=some (.p (pI (errG g))):=by
  have g0:([Row.mix (eGr g)]:Qa)[0]?=some (.mix (eGr g)):=rfl
  refine Qn (by simp [Zx]) rfl (F81_call (r:=(.p (pI (errG g)),[.mix (eGr g)])) ?_) rfl
  have q1:decide (((L g.edges).length:Int)≤120)=decide ((L g.edges).length≤120):=by rw [decide_eq_decide]; omega
  have S73':=fun (b:Bool) (e:Int) (σ:Qa)=>S73 b e σ
  simp only [pI] at S73'
  have bs:=fun (x y z:Int) (σ:Qa)=>bs143_3 x y z σ
  simp only [pI] at bs
  rw [F81_eq]
  simp only [Zo,gG,List.length_nil,List.nil_append,ZP,Zj,Qe,Qf,Nat.zero_add,Nat.add_zero,Qc,List.append_nil,List.singleton_append,List.cons_append,List.nil_append,QJ,Zh,Qd (off:=0) g0 (v:=.p (.int .i64 g.n)) rfl,Qd (off:=2) g0 (v:=.p (eEs g.edges)) rfl,S100 (q:=tk) he (fun σ0 _ e=>S107 e σ0),Ws g0,S96 hi he,S73',Za]
  have fin:∀ b2:Bool,b2=(decide (g.n≤30)&&decide ((L g.edges).length≤120))→orL [if isG g=true then 0 else 5,if b2=true then 0 else 2,if (!(L g.edges).any tk)=true then 0 else 3]=errG g:=by
    rintro _ rfl
    unfold errG
    cases isG g <;> by_cases h1:g.n≤30 <;> by_cases h2:(L g.edges).length≤120 <;> cases (L g.edges).any tk <;> simp [orL,h1,h2]
  have h53:∀ (a b c:Int) (σ:Qa),Qx CC 53 [.p (.sl true 3 (Qu [a,b,c]))] σ=some (.p (.int .i64 (orL [a,b,c]))):=fun a b c σ=>S53t rfl (by simp)
  by_cases h1:g.n≤30
  · simp only [decide_eq_true h1,gG,Qd (off:=2) g0 (v:=.p (eEs g.edges)) rfl,Wz,Za,q1,S73',bs,h53]
    rw [fin _ (by rw [decide_eq_true h1,Bool.true_and])]
  · simp only [decide_eq_false h1,gG,Wz,Za,q1,S73',bs,h53]
    rw [fin _ (by rw [decide_eq_false h1,Bool.false_and])]
omit hi in
theorem L17 {σ:Qa} (g0:σ[0]?=some (.mix (eGr g))):∀ (d i:Nat),(L g.edges).length-i=d→i≤(L g.edges).length→
    f17_L0 Qb 0 (.ptr 0 0) (N i) σ=some (.p (pI (if ((L g.edges).drop i).any tk=true then 3 else 0)),σ)
  | 0,i,hd,hj=>by
    rw [f17_L0_eq Qb rfl,List.drop_of_length_le (by omega)]
    simp (disch:=omega) only [N,Zj,Qe,Qf,Nat.zero_add,Nat.add_zero,Qc,List.append_nil,List.singleton_append,List.cons_append,List.nil_append,Zh,Qd (off:=2) g0 (v:=.p (eEs g.edges)) rfl,Wz,Qp,ltF,gG]
    rfl
  | d+1,i,hd,hj=>by
    have hil:i<(L g.edges).length:=by omega
    have ih:=L17 g0 d (i+1) (by omega) (by omega)
    have e0:(L g.edges).drop i=gE (L g.edges) i::(L g.edges).drop (i+1):=by rw [Vh hil]; exact List.drop_eq_getElem_cons hil
    rw [f17_L0_eq Qb rfl,e0,List.any_cons]
    by_cases h11:(gE (L g.edges) i).a=11
    · simp (disch:=omega) only [N,Zj,Qe,Qf,Nat.zero_add,Nat.add_zero,Qc,List.append_nil,List.singleton_append,List.cons_append,List.nil_append,Zh,Qd (off:=2) g0 (v:=.p (eEs g.edges)) rfl,Wz,Qp,ltT,gG,Uj,Uf,QJ,ldEa hil,Zc,eqT h11,tk,Bool.true_or,if_true]
    · simp (disch:=omega) only [N,Zj,Qe,Qf,Nat.zero_add,Nat.add_zero,Qc,List.append_nil,List.singleton_append,List.cons_append,List.nil_append,Zh,Qd (off:=2) g0 (v:=.p (eEs g.edges)) rfl,Wz,Qp,ltT,gG,Uj,Uf,QJ,ldEa hil,Zc,eqF h11,add1,tk,Bool.false_or]
      exact ih
theorem S17 (σ:Qa):Qx CC 17 [.agg (eGr g)] σ=some (.p (pI (errG g))):=by
  have g0:([Row.mix (eGr g)]:Qa)[0]?=some (.mix (eGr g)):=rfl
  refine Qn (by simp [Zx]) rfl (F17_call (r:=(.p (pI (errG g)),[.mix (eGr g)])) ?_) rfl
  rw [F17_eq]
  unfold errG
  cases hG:isG g with
  | false=>
    simp only [Zo,gG,List.length_nil,List.nil_append,Ws g0,Qc,List.append_nil,S56 hi he,hG]
    rfl
  | true=>
    have hL:=L17 he g0 _ 0 rfl (Nat.zero_le _)
    rw [List.drop_zero] at hL
    by_cases h1:g.n≤30
    · have p1:¬ (g.n>30):=by omega
      by_cases h2:(L g.edges).length≤120
      · have p2:¬ (((L g.edges).length:Int)>120):=by omega
        simp only [Zo,gG,List.length_nil,List.nil_append,Ws g0,S56 hi he,hG,ZP,Zj,Qe,Qf,Nat.zero_add,Nat.add_zero,Qc,List.append_nil,List.singleton_append,List.cons_append,List.nil_append,QJ,Zh,Qd (off:=0) g0 (v:=.p (.int .i64 g.n)) rfl,Qd (off:=2) g0 (v:=.p (eEs g.edges)) rfl,Wz,Zi,gtF p1,gtF p2,if_true,if_pos (And.intro h1 h2)]
        exact hL
      · have p2:(((L g.edges).length:Int)>120):=by omega
        have p3:¬ (g.n≤30∧(L g.edges).length≤120):=fun h=>h2 h.2
        simp only [Zo,gG,List.length_nil,List.nil_append,Ws g0,S56 hi he,hG,ZP,Zj,Qe,Qf,Nat.zero_add,Nat.add_zero,Qc,List.append_nil,List.singleton_append,List.cons_append,List.nil_append,QJ,Zh,Qd (off:=0) g0 (v:=.p (.int .i64 g.n)) rfl,Qd (off:=2) g0 (v:=.p (eEs g.edges)) rfl,Wz,Zi,gtF p1,gtT p2,if_true,if_neg p3]
    · have p1:g.n>30:=by omega
      have p3:¬ (g.n≤30∧(L g.edges).length≤120):=fun h=>h1 h.1
      simp only [Zo,gG,List.length_nil,List.nil_append,Ws g0,S56 hi he,hG,ZP,Zj,Qe,Qf,Nat.zero_add,Nat.add_zero,Qc,List.append_nil,List.singleton_append,List.cons_append,List.nil_append,QJ,Zh,Qd (off:=0) g0 (v:=.p (.int .i64 g.n)) rfl,Qd (off:=2) g0 (v:=.p (eEs g.edges)) rfl,Wz,Zi,gtT p1,if_true,if_neg p3]
end
end Go.D.StS
end
/- Chapter 22: the errors of history variables; own copies; AddHistory. -/
section
set_option linter.unusedVariables false
set_option linter.unusedSimpArgs false
namespace Go.D.StS
open Go.D.Srt
theorem S82' {o:OI} {σ:Qa} (hl:(L o).length≤1000):Qx CC 82 [.p (eSl o)] σ=some (.p (.bool (!(L o).any bA))):=S82 hl
theorem h53_2 (a b:Int) (σ:Qa):Qx CC 53 [.p (.sl true 2 (Qu [a,b]))] σ=some (.p (.int .i64 (orL [a,b]))):=S53t rfl (by simp)
theorem h53_4 (a b c d:Int) (σ:Qa):Qx CC 53 [.p (.sl true 4 (Qu [a,b,c,d]))] σ=some (.p (.int .i64 (orL [a,b,c,d]))):=S53t rfl (by simp)
theorem bs143_4 (x y z w:Int) (σ:Qa):buildSlice PP none 143 4 [(0,.p (.int .i64 x)),(1,.p (.int .i64 y)),(2,.p (.int .i64 z)),(3,.p (.int .i64 w))] σ=some (.p (.sl true 4 (Qu [x,y,z,w])),σ):=Eq.trans (by kernel_rfl) rfl
theorem bs143_2' (x y:Int) (σ:Qa):buildSlice PP none 143 2 [(0,.p (.int .i64 x)),(1,.p (.int .i64 y))] σ=some (.p (.sl true 2 (Qu [x,y])),σ):=Eq.trans (by kernel_rfl) rfl
theorem S73i (b:Bool) (e:Int) (σ:Qa):Qx CC 73 [.p (.bool b),.p (.int .i64 e)] σ=some (.p (.int .i64 (if b=true then 0 else e))):=S73 b e σ
theorem S57i (n:Int) (σ:Qa):Qx CC 57 [.p (.int .i64 n)] σ=some (.p (.bool (inR n 0 7))):=S57 n σ
section
variable {h : Hs} {σ : Qa}
theorem L50 (hr:∀ j,j<(L h.x).length→(L ((L h.x).getD j none)).length≤1000) (hl:(L h.x).length≤1000):∀ (d i:Nat),(L h.x).length-i=d→i≤(L h.x).length→
    f50_L0 Qb 0 (.p (eLs h.x)) (N (L h.x).length) (N i) σ=some (.p (pI (Wp ((L h.x).drop i))),σ)
  | 0,i,hd,hi=>by
    rw [f50_L0_eq Qb rfl,List.drop_of_length_le (by omega)]
    simp (disch:=omega) only [N,Qp,ltF,gG]
    rfl
  | d+1,i,hd,hi=>by
    have hil:i<(L h.x).length:=by omega
    have ih:=L50 hr hl d (i+1) (by omega) (by omega)
    have e0:(L h.x).drop i=(L h.x).getD i none::(L h.x).drop (i+1):=by rw [QZ none hil]; exact List.drop_eq_getElem_cons hil
    have h82:=S82' (σ:=σ) (hr i hil)
    have q:decide (((L ((L h.x).getD i none)).length:Int)=8)=decide ((L ((L h.x).getD i none)).length=8):=by rw [decide_eq_decide]; omega
    have e1:orL [if decide ((L ((L h.x).getD i none)).length=8)=true then 0 else 6,if (!(L ((L h.x).getD i none)).any bA)=true then 0 else 3]=VF ((L h.x).getD i none):=by
      generalize (L h.x).getD i none=w
      unfold VF
      by_cases h1:(L w).length=8 <;> cases (L w).any bA <;> simp [orL,h1]
    rw [f50_L0_eq Qb rfl,e0,Wp]
    simp (disch:=omega) only [N,Qp,ltT,gG,Uz,QH,ldLs hil,QP,Zc,q,Qc,List.append_nil,S73i,h82,bs143_2',h53_2,e1,ZO]
    by_cases h0:VF ((L h.x).getD i none)=0
    · simp (disch:=omega) only [eqT h0,gG,if_pos h0,add1]
      exact ih
    · simp only [eqF h0,gG,if_neg h0]
theorem L18_2 {g:Gr} (g1:σ[1]?=some (.mix (eHs h))) {i:Nat} (hil:i<(L h.x).length) (hl:(L ((L h.x).getD i none)).length≤1000) (hl2:(L h.x).length≤1000):∀ (d k:Nat),(L ((L h.x).getD i none)).length-k=d→k≤(L ((L h.x).getD i none)).length→
    f18_L2 Qb 0 (.ptr 1 0) (N i) (N k) σ=if ((L ((L h.x).getD i none)).drop k).any bA=true then some (.p (pI 3),σ) else f18_L1 Qb 0 (.ptr 1 0) (N (i+1)) σ
  | 0,k,hd,hk=>by
    rw [f18_L2_eq Qb rfl,List.drop_of_length_le (by omega)]
    simp (disch:=omega) only [N,Wk,Qe,Qf,Nat.zero_add,Nat.add_zero,Qc,List.append_nil,List.singleton_append,List.cons_append,List.nil_append,Wi,Qd (off:=1) g1 (v:=.p (eLs h.x)) rfl,Uz,QH,ldLs hil,QP,Qp,ltF,gG,add1,List.any_nil,Bool.false_eq_true,if_false]
  | d+1,k,hd,hk=>by
    have hkl:k<(L ((L h.x).getD i none)).length:=by omega
    have ih:=L18_2 (g:=g) g1 hil hl hl2 d (k+1) (by omega) (by omega)
    have e0:(L ((L h.x).getD i none)).drop k=(L ((L h.x).getD i none)).getD k 0::(L ((L h.x).getD i none)).drop (k+1):=by rw [QZ 0 hkl]; exact List.drop_eq_getElem_cons hkl
    have ix:=Wn (o:=(L h.x).getD i none) hkl
    have ld:=QD (l:=L ((L h.x).getD i none)) hkl σ
    simp only [pI] at ld
    rw [f18_L2_eq Qb rfl,e0,List.any_cons]
    have eb:(!inR ((L ((L h.x).getD i none)).getD k 0) 0 7)=bA ((L ((L h.x).getD i none)).getD k 0):=rfl
    cases hb:bA ((L ((L h.x).getD i none)).getD k 0) with
    | true=>
      simp (disch:=omega) only [N,Wk,Qe,Qf,Nat.zero_add,Nat.add_zero,Qc,List.append_nil,List.singleton_append,List.cons_append,List.nil_append,Wi,Qd (off:=1) g1 (v:=.p (eLs h.x)) rfl,Uz,QH,ldLs hil,QP,Qp,ltT,gG,ix,QJ,ld,S57i,eb,hb,Bool.true_or,if_true]
    | false=>
      simp (disch:=omega) only [N,Wk,Qe,Qf,Nat.zero_add,Nat.add_zero,Qc,List.append_nil,List.singleton_append,List.cons_append,List.nil_append,Wi,Qd (off:=1) g1 (v:=.p (eLs h.x)) rfl,Uz,QH,ldLs hil,QP,Qp,ltT,gG,ix,QJ,ld,S57i,eb,hb,Bool.false_or,add1]
      exact ih
theorem L18_1 {g:Gr} (g1:σ[1]?=some (.mix (eHs h))) (hr:∀ j,j<(L h.x).length→(L ((L h.x).getD j none)).length≤1000) (hl:(L h.x).length≤1000):∀ (d i:Nat),(L h.x).length-i=d→i≤(L h.x).length→
    f18_L1 Qb 0 (.ptr 1 0) (N i) σ=some (.p (pI (Wp ((L h.x).drop i))),σ)
  | 0,i,hd,hi=>by
    rw [f18_L1_eq Qb rfl,List.drop_of_length_le (by omega)]
    simp (disch:=omega) only [N,Wk,Qe,Qf,Nat.zero_add,Nat.add_zero,Qc,List.append_nil,List.singleton_append,List.cons_append,List.nil_append,Wi,Qd (off:=1) g1 (v:=.p (eLs h.x)) rfl,Ut,Qp,ltF,gG]
    rfl
  | d+1,i,hd,hi=>by
    have hil:i<(L h.x).length:=by omega
    have ih:=L18_1 (g:=g) g1 hr hl d (i+1) (by omega) (by omega)
    have e0:(L h.x).drop i=(L h.x).getD i none::(L h.x).drop (i+1):=by rw [QZ none hil]; exact List.drop_eq_getElem_cons hil
    have h2:=L18_2 (g:=g) (σ:=σ) g1 hil (hr i hil) hl _ 0 rfl (Nat.zero_le _)
    rw [List.drop_zero] at h2
    rw [f18_L1_eq Qb rfl,e0,Wp]
    by_cases h8:(L ((L h.x).getD i none)).length=8
    · have q:(((L ((L h.x).getD i none)).length:Nat):Int)=8:=by omega
      simp (disch:=omega) only [N,Wk,Qe,Qf,Nat.zero_add,Nat.add_zero,Qc,List.append_nil,List.singleton_append,List.cons_append,List.nil_append,Wi,Qd (off:=1) g1 (v:=.p (eLs h.x)) rfl,Ut,Qp,ltT,gG,Uz,QH,ldLs hil,QP,ZO,eqT q]
      refine h2.trans ?_
      unfold VF
      rw [if_pos h8]
      cases (L ((L h.x).getD i none)).any bA with
      | true=>simp
      | false=>simpa using ih
    · have q:¬ (((L ((L h.x).getD i none)).length:Nat):Int)=8:=by omega
      simp (disch:=omega) only [N,Wk,Qe,Qf,Nat.zero_add,Nat.add_zero,Qc,List.append_nil,List.singleton_append,List.cons_append,List.nil_append,Wi,Qd (off:=1) g1 (v:=.p (eLs h.x)) rfl,Ut,Qp,ltT,gG,Uz,QH,ldLs hil,QP,ZO,eqF q]
      unfold VF
      rw [if_neg h8]
      rfl
theorem L18_0 {g:Gr} (g0:σ[0]?=some (.mix (eGr g))) (g1:σ[1]?=some (.mix (eHs h))) (hr:∀ j,j<(L h.x).length→(L ((L h.x).getD j none)).length≤1000) (hl:(L h.x).length≤1000) (hs:(L h.s).length≤1000):∀ (d i:Nat),(L h.s).length-i=d→i≤(L h.s).length→
    f18_L0 Qb 0 (.ptr 0 0) (.ptr 1 0) (N i) σ=some (.p (pI (if ((L h.s).drop i).any bA=true then 3 else if (L h.x).length=(L g.edges).length then Wp (L h.x) else 6)),σ)
  | 0,i,hd,hi=>by
    have h1:=L18_1 (g:=g) g1 hr hl _ 0 rfl (Nat.zero_le _)
    rw [List.drop_zero] at h1
    rw [f18_L0_eq Qb rfl,List.drop_of_length_le (by omega)]
    by_cases q0:(L h.x).length=(L g.edges).length
    · have q:(((L h.x).length:Nat):Int)=(((L g.edges).length:Nat):Int):=by omega
      simp (disch:=omega) only [N,Wt,Wk,Zj,Qe,Qf,Nat.zero_add,Nat.add_zero,Qc,List.append_nil,List.singleton_append,List.cons_append,List.nil_append,QH,Qd (off:=0) g1 (v:=.p (eSl h.s)) rfl,QP,Qp,ltF,gG,Wi,Qd (off:=1) g1 (v:=.p (eLs h.x)) rfl,Ut,Zh,Qd (off:=2) g0 (v:=.p (eEs g.edges)) rfl,Wz,ZO,eqT q,List.any_nil,Bool.false_eq_true,if_false,if_pos q0]
      exact h1
    · have q:¬ (((L h.x).length:Nat):Int)=(((L g.edges).length:Nat):Int):=by omega
      simp (disch:=omega) only [N,Wt,Wk,Zj,Qe,Qf,Nat.zero_add,Nat.add_zero,Qc,List.append_nil,List.singleton_append,List.cons_append,List.nil_append,QH,Qd (off:=0) g1 (v:=.p (eSl h.s)) rfl,QP,Qp,ltF,gG,Wi,Qd (off:=1) g1 (v:=.p (eLs h.x)) rfl,Ut,Zh,Qd (off:=2) g0 (v:=.p (eEs g.edges)) rfl,Wz,ZO,eqF q,List.any_nil,Bool.false_eq_true,if_false,if_neg q0]
  | d+1,i,hd,hi=>by
    have hil:i<(L h.s).length:=by omega
    have ih:=L18_0 g0 g1 hr hl hs d (i+1) (by omega) (by omega)
    have e0:(L h.s).drop i=(L h.s).getD i 0::(L h.s).drop (i+1):=by rw [QZ 0 hil]; exact List.drop_eq_getElem_cons hil
    have ix:=Wn (o:=h.s) hil
    have ld:=QD (l:=L h.s) hil σ
    simp only [pI] at ld
    rw [f18_L0_eq Qb rfl,e0,List.any_cons]
    have eb:(!inR ((L h.s).getD i 0) 0 7)=bA ((L h.s).getD i 0):=rfl
    cases hb:bA ((L h.s).getD i 0) with
    | true=>
      simp (disch:=omega) only [N,Wt,Qe,Qf,Nat.zero_add,Nat.add_zero,Qc,List.append_nil,List.singleton_append,List.cons_append,List.nil_append,QH,Qd (off:=0) g1 (v:=.p (eSl h.s)) rfl,QP,Qp,ltT,gG,ix,QJ,ld,S57i,eb,hb,Bool.true_or,if_true]
    | false=>
      simp (disch:=omega) only [N,Wt,Qe,Qf,Nat.zero_add,Nat.add_zero,Qc,List.append_nil,List.singleton_append,List.cons_append,List.nil_append,QH,Qd (off:=0) g1 (v:=.p (eSl h.s)) rfl,QP,Qp,ltT,gG,ix,QJ,ld,S57i,eb,hb,Bool.false_or,add1]
      exact ih
end
section
variable {g : Gr} {h : Hs} (hr : ∀ j, j < (L h.x).length → (L ((L h.x).getD j none)).length ≤ 1000) (hl : (L h.x).length ≤ 1000) (hs : (L h.s).length ≤ 1000)
include hr hl hs
theorem S18 (σ:Qa):Qx CC 18 [.agg (eGr g),.agg (eHs h)] σ=some (.p (pI (US g h))):=by
  have g0:([Row.mix (eGr g),.mix (eHs h)]:Qa)[0]?=some (.mix (eGr g)):=rfl
  have g1:([Row.mix (eGr g),.mix (eHs h)]:Qa)[1]?=some (.mix (eHs h)):=rfl
  have h0:=L18_0 g0 g1 hr hl hs _ 0 rfl (Nat.zero_le _)
  rw [List.drop_zero] at h0
  refine Qn (by simp [Zx,VD]) rfl (F18_call (r:=(.p (pI (US g h)),[.mix (eGr g),.mix (eHs h)])) ?_) rfl
  rw [F18_eq]
  unfold US
  by_cases q:((L h.s).length:Int)=g.n
  · simp only [Zo,Wx,gG,List.length_nil,List.nil_append,List.length_cons,List.cons_append,Wt,ZP,Qe,Qf,Nat.zero_add,Nat.add_zero,Qc,List.append_nil,List.singleton_append,List.cons_append,List.nil_append,QH,QJ,Qd (off:=0) g1 (v:=.p (eSl h.s)) rfl,Qd (off:=0) g0 (v:=.p (.int .i64 g.n)) rfl,QP,ZO,eqT q,if_pos q]
    exact h0
  · simp only [Zo,Wx,gG,List.length_nil,List.nil_append,List.length_cons,List.cons_append,Wt,ZP,Qe,Qf,Nat.zero_add,Nat.add_zero,Qc,List.append_nil,List.singleton_append,List.cons_append,List.nil_append,QH,QJ,Qd (off:=0) g1 (v:=.p (eSl h.s)) rfl,Qd (off:=0) g0 (v:=.p (.int .i64 g.n)) rfl,QP,ZO,eqF q,if_neg q]
def errH (g:Gr) (h:Hs):Int:=if errG g=0 then US g h else errG g
theorem S50 (hi:(L g.init).length≤1000) (he:(L g.edges).length≤10000) (σ:Qa):Qx CC 50 [.agg (eGr g),.agg (eHs h)] σ=some (.p (pI (errH g h))):=by
  have g0:([Row.mix (eGr g),.mix (eHs h)]:Qa)[0]?=some (.mix (eGr g)):=rfl
  have g1:([Row.mix (eGr g),.mix (eHs h)]:Qa)[1]?=some (.mix (eHs h)):=rfl
  have h0:=L50 (h:=h) (σ:=[Row.mix (eGr g),.mix (eHs h)]) hr hl _ 0 rfl (Nat.zero_le _)
  rw [List.drop_zero] at h0
  have h81:=S81 hi he [Row.mix (eGr g),.mix (eHs h)]
  simp only [pI] at h81
  have h82:=S82' (σ:=[Row.mix (eGr g),.mix (eHs h)]) hs
  have q:decide (((L h.x).length:Int)=((L g.edges).length:Nat))=decide ((L h.x).length=(L g.edges).length):=by rw [decide_eq_decide]; omega
  refine Qn (by simp [Zx,VD]) rfl (F50_call (r:=(.p (pI (errH g h)),[.mix (eGr g),.mix (eHs h)])) ?_) rfl
  have e1:orL [errG g,if decide (((L h.s).length:Int)=g.n)=true then 0 else 6,if (!(L h.s).any bA)=true then 0 else 3,if decide ((L h.x).length=(L g.edges).length)=true then 0 else 6] =
      if errG g=0 then (if ((L h.s).length:Int)=g.n then (if (L h.s).any bA=true then 3 else if (L h.x).length=(L g.edges).length then 0 else 6) else 6) else errG g:=by
    by_cases a0:errG g=0 <;> by_cases a1:((L h.s).length:Int)=g.n <;> cases (L h.s).any bA <;> by_cases a2:(L h.x).length=(L g.edges).length <;> simp [orL,a0,a1,a2]
  rw [F50_eq]
  simp only [Zo,Wx,gG,List.length_nil,List.nil_append,List.length_cons,List.cons_append,Wt,Wk,ZP,Zj,Qe,Qf,Nat.zero_add,Nat.add_zero,Qc,List.append_nil,List.singleton_append,List.cons_append,List.nil_append,Ws g0,h81,QH,QJ,Zh,Wi,Qd (off:=0) g1 (v:=.p (eSl h.s)) rfl,Qd (off:=1) g1 (v:=.p (eLs h.x)) rfl,
    Qd (off:=0) g0 (v:=.p (.int .i64 g.n)) rfl,Qd (off:=2) g0 (v:=.p (eEs g.edges)) rfl,QP,Wz,Ut,Zc,q,S73i,h82,bs143_4,h53_4,e1,ZO]
  unfold errH US
  by_cases a0:errG g=0
  · simp only [if_pos a0]
    by_cases a1:((L h.s).length:Int)=g.n
    · simp only [if_pos a1]
      cases a3:(L h.s).any bA with
      | true=>rfl
      | false=>
        simp only [Bool.false_eq_true,if_false]
        by_cases a2:(L h.x).length=(L g.edges).length
        · simp only [if_pos a2]
          exact h0
        · simp only [if_neg a2]
          rfl
    · simp only [if_neg a1]
      rfl
  · simp only [if_neg a0,eqF a0,gG]
end
def ownH (h:Hs):Hs:=⟨some (L h.s),if L h.x=[] then none else some ((L h.x).map fun o=>some (L o))⟩
theorem bytes22:bytes? PP 22=some 24:=Eq.trans (by kernel_rfl) rfl
theorem zr22:Qz PP 22=some [.p .nilsl]:=Eq.trans (by kernel_rfl) rfl
theorem src26:ZI PP 26=true:=Eq.trans (by kernel_rfl) rfl
theorem bs26 (v:PV) (σ:Qa):buildSlice PP none 26 1 [(0,.p v)] σ=some (.p (.sl true 1 [v]),σ):=Eq.trans (by kernel_rfl) rfl
theorem L52 {o:Option (List OI)} (hl:(L o).length≤1000) (hr:∀ j,j<(L o).length→(L ((L o).getD j none)).length≤1000):∀ (d i:Nat) (y:DV) (σ:Qa),(L o).length-i=d→i≤(L o).length→Out σ 0 1 i (((L o).take i).map fun q=>eSl (some (L q))) y→
    ∃ y' σ',f52_L0 Qb 0 (.p (eLs o)) y (N i) σ=some (y',σ')∧Out σ' 0 1 (L o).length ((L o).map fun q=>eSl (some (L q))) y'
  | 0,i,y,σ,hd,hi,ho=>by
    have e:i=(L o).length:=by omega
    subst e
    rw [List.take_length] at ho
    refine ⟨y,σ,?_,ho⟩
    rw [f52_L0_eq Qb rfl]
    simp (disch:=omega) only [N,Ut,Qp,ltF,gG]
  | d+1,i,y,σ,hd,hi,ho=>by
    have hil:i<(L o).length:=by omega
    have h16:=S16 (σ:=σ) (hr i hil)
    obtain ⟨y1,σ1,p1,p2,p3,p4⟩:=Out.pushG (lo:=0) (vs:=[eSl (some (L ((L o).getD i none)))]) src26 u26 s22' bytes22 zr22 rfl (by decide) (by decide) (by decide) rfl ho (by omega) (Nat.zero_le _) (Nat.zero_le _)
    have e1:(((L o).take i).map fun q=>eSl (some (L q)))++[eSl (some (L ((L o).getD i none)))]=((L o).take (i+1)).map fun q=>eSl (some (L q)):=by
      rw [List.take_succ_eq_append_getElem hil,List.map_append,QZ none hil]; rfl
    rw [e1] at p2
    obtain ⟨y',σ',r1,r2⟩:=L52 hl hr d (i+1) y1 σ1 (by omega) (by omega) p2
    refine ⟨y',σ',?_,r2⟩
    rw [←r1,f52_L0_eq Qb rfl]
    simp (disch:=omega) only [N,Ut,Qp,ltT,gG,Uz,QH,ldLs hil,Qc,List.append_nil,h16,bs26,p1,add1]
theorem S52 {o:Option (List OI)} {σ:Qa} (hl:(L o).length≤1000) (hr:∀ j,j<(L o).length→(L ((L o).getD j none)).length≤1000):Qx CC 52 [.p (eLs o)] σ=some (.p (eLs (if L o=[] then none else some ((L o).map fun q=>some (L q))))):=by
  obtain ⟨y,σ',e1,o1⟩:=L52 hl hr _ 0 (.p .nilsl) [] rfl (Nat.zero_le _) Out.zero
  refine Qn (by simp [ls_view]) rfl (F52_call (r:=(y,σ')) (by rw [F52_eq]; exact e1)) ?_
  rw [Out.twAll o1 0]
  have e2:((L o).map fun q=>eSl (some (L q)))=((L o).map fun q=>some (L q)).map eSl:=by rw [List.map_map]; rfl
  rw [e2,loosens_sls]
  by_cases e:L o=[]
  · rw [e]; rfl
  · rw [if_neg e,if_neg (fun h=>e (List.length_eq_zero_iff.1 h))]
    simp [eLs]
theorem s28:size? PP 28=some 2:=Eq.trans (by kernel_rfl) rfl
theorem bld28 (a b:PV):build PP 28 [(0,.p a),(1,.p b)]=some (.agg [.p a,.p b]):=Eq.trans (by kernel_rfl) rfl
theorem S14 {h:Hs} {σ:Qa} (hs:(L h.s).length≤1000) (hl:(L h.x).length≤1000) (hr:∀ j,j<(L h.x).length→(L ((L h.x).getD j none)).length≤1000):Qx CC 14 [.agg (eHs h)] σ=some (.agg (eHs (ownH h))):=by
  have g0:([Row.mix (eHs h),.mix [.p .nilsl,.p .nilsl]]:Qa)[0]?=some (.mix (eHs h)):=rfl
  refine Qn (by simp [VD]) rfl (F14_call (r:=(.agg (eHs (ownH h)),[.mix (eHs h),.mix (eHs (ownH h))])) ?_) ?_
  · have hst:store PP 0 28 (.ptr 1 0) (.agg (eHs (ownH h))) [.mix (eHs h),.mix [.p .nilsl,.p .nilsl]]=some [.mix (eHs h),.mix (eHs (ownH h))]:=by
      have e:(DV.agg (eHs (ownH h))).cells=eHs (ownH h):=rfl
      have e2:(eHs (ownH h)).length=2:=rfl
      have e3:(eHs (ownH h)).all DV.one=true:=rfl
      have e4:QS [DV.p .nilsl,.p .nilsl] 0 (eHs (ownH h))=eHs (ownH h):=rfl
      simp [store,s28,e,e2,Zs,e3,e4]
    have hcv:Vt PP 28 (.ptr 1 0) [.mix (eHs h),.mix (eHs (ownH h))]=some (.agg (eHs (ownH h))):=by
      have g1:([Row.mix (eHs h),.mix (eHs (ownH h))]:Qa)[1]?=some (.mix (eHs (ownH h))):=rfl
      rw [Ww,load28,QK (vs:=eHs (ownH h)) g1 rfl (by simp [eHs])]; rfl
    have hown:DV.agg [.p (eSl (some (L h.s))),.p (eLs (if L h.x=[] then none else some ((L h.x).map fun q=>some (L q))))]=.agg (eHs (ownH h)):=rfl
    rw [F14_eq]
    simp only [Wx,zero28,gG,List.length_nil,List.nil_append,List.length_cons,List.cons_append,Wt,Wk,Qe,Qf,Nat.zero_add,Nat.add_zero,Qc,List.append_nil,List.singleton_append,List.cons_append,List.nil_append,QH,Wi,Qd (off:=0) g0 (v:=.p (eSl h.s)) rfl,Qd (off:=1) g0 (v:=.p (eLs h.x)) rfl,S16 hs,S52 hl hr,bld28,hown,hst,hcv]
  · simp [Zf,Zw,eHs,mapO,thaw,Us,VB,ZE,loosen_ls]
end Go.D.StS
end
/- Chapter 22: AddHistory. -/
section
set_option linter.unusedVariables false
set_option linter.unusedSimpArgs false
namespace Go.D.StS
open Go.D.Srt
theorem mapO_thawP (σ:Qa) (n d:Nat):∀ cs:List PV,mapO (VB n σ (d+1)) (cs.map DV.p)=some (QN cs)
  | []=>rfl
  | a::cs=>by
    have h:=mapO_thawP σ n d cs
    simp only [List.map_cons,mapO,h,QN]
    rfl
theorem RowG.tw {σ:Qa} {B sz n m:Nat} {cs:List PV} {x:DV} (h:RowG σ B sz n cs x) (hm:m≤B):thaw m σ x=some (.p (if n=0 then .nilsl else .sl false n (QN cs))):=by
  rcases h.2 with ⟨e,rfl⟩ | ⟨h0,r,rfl,e2,e3⟩
  · rw [if_pos e]; rfl
  · have e4:((cs.map DV.p).drop 0).take (n*sz)=cs.map DV.p:=by rw [List.drop_zero,List.take_of_length_le (by rw [List.length_map,h.1]; exact Nat.le_refl _)]
    have e5:m≤r:=by omega
    have e6:0+n*sz≤(cs.map DV.p).length:=by rw [List.length_map,h.1]; omega
    simp only [thaw,Us,VB,e5,if_true,e2,e6,e4,mapO_thawP,Option.map_some,h0,if_false]
theorem ta_tup (n:Nat) (σ:Qa) (vs:List DV):Zf n σ (.tuple vs)=(mapO (Zw n σ) vs).map .tuple:=rfl
theorem tp_agg (n:Nat) (σ:Qa) (cs:List DV):Zw n σ (.agg cs)=(mapO (thaw n σ) cs).map .agg:=rfl
theorem tp_int (n:Nat) (σ:Qa) (v:Int):Zw n σ (.p (.int .i64 v))=some (.p (.int .i64 v)):=rfl
theorem tw_int (n:Nat) (σ:Qa) (v:Int):thaw n σ (.p (.int .i64 v))=some (.p (.int .i64 v)):=rfl
theorem oI_val (l:List Int):(.p (if l.length=0 then PV.nilsl else .sl false l.length (QN (Qu l))):DV)=.p (eSl (oI l)):=by
  unfold oI
  by_cases e:l=[]
  · subst e; rfl
  · rw [if_neg e,if_neg (fun h=>e (List.length_eq_zero_iff.1 h)),Zr]; rfl
theorem oE_val (l:List Edg):(.p (if l.length=0 then PV.nilsl else .sl false l.length (QN (Ze l))):DV)=.p (eEs (oE l)):=by
  unfold oE
  by_cases e:l=[]
  · subst e; rfl
  · rw [if_neg e,if_neg (fun h=>e (List.length_eq_zero_iff.1 h)),loosens_edgs]; rfl
def mkX (B:List E) (is:List Int) (E':List Edg):Ax:=⟨⟨B.length,oI is,oE E'⟩,oI (B.map Prod.fst),oI (B.map Prod.snd)⟩
theorem GR.val {lo:Nat} {B:List E} {is:List Int} {E':List Edg} {ix ex bx ax:DV} {σ:Qa} (h:GR lo B is E' ix ex bx ax σ) (e:Int) :
    Zf 0 σ (.tuple [.agg [.p (.int .i64 (B.length:Nat)),ix,ex,bx,ax],.p (.int .i64 e)])=some (.tuple [.agg (eAx (mkX B is E')),.p (.int .i64 e)]):=by
  have hb:=Out.tw h.ob 0
  have ha:=Out.tw h.oa 0
  have e1:B.length=(B.map Prod.fst).length:=by simp
  have e2:B.length=(B.map Prod.snd).length:=by simp
  rw [e1,oI_val] at hb
  rw [e2,oI_val] at ha
  rw [ta_tup]
  simp only [mapO,tp_agg,tp_int,tw_int,h.ri.tw (Nat.zero_le _),h.re.tw (Nat.zero_le _),hb,ha,oI_val,oE_val,Option.map_some]
  rfl
def zAx:Ax:=⟨⟨0,none,none⟩,none,none⟩
theorem bld33_0:build PP 33 []=some (.agg (eAx zAx)):=Eq.trans (by kernel_rfl) rfl
theorem st33 {σ:Qa} {t:Nat} {z c:List DV} (h:σ[t]?=some (.mix z)) (hz:z.length=5) (hc:c.length=5) (ho:c.all DV.one=true):store PP 0 33 (.ptr t 0) (.agg c) σ=some (σ.set t (.mix c)):=by
  have e:QS z 0 c=c:=by simp [QS,hz,hc]
  simp [store,s33,DV.cells,Zs,hc,h,hz,ho,e]
section
variable {g : Gr} {h : Hs}
theorem S12e (hi:(L g.init).length≤1000) (he:(L g.edges).length≤10000) (hr:∀ j,j<(L h.x).length→(L ((L h.x).getD j none)).length≤1000) (hl:(L h.x).length≤1000) (hs:(L h.s).length≤1000) (h0:errH g h≠0) (σ:Qa) :
    Qx CC 12 [.agg (eGr g),.agg (eHs h)] σ=some (.tuple [.agg (eAx zAx),.p (.int .i64 (errH g h))]):=by
  have g0:([Row.mix (eGr g),.mix (eHs h),.mix [.p (pI 0),.p .nilsl,.p .nilsl,.p .nilsl,.p .nilsl]]:Qa)[0]?=some (.mix (eGr g)):=rfl
  have g1:([Row.mix (eGr g),.mix (eHs h),.mix [.p (pI 0),.p .nilsl,.p .nilsl,.p .nilsl,.p .nilsl]]:Qa)[1]?=some (.mix (eHs h)):=rfl
  have g2:([Row.mix (eGr g),.mix (eHs h),.mix [.p (pI 0),.p .nilsl,.p .nilsl,.p .nilsl,.p .nilsl]]:Qa)[2]?=some (.mix [.p (pI 0),.p .nilsl,.p .nilsl,.p .nilsl,.p .nilsl]):=rfl
  have h50:=S50 hr hl hs hi he [Row.mix (eGr g),.mix (eHs h),.mix [.p (pI 0),.p .nilsl,.p .nilsl,.p .nilsl,.p .nilsl]]
  simp only [pI] at h50
  have hst:=st33 (c:=eAx zAx) g2 rfl rfl rfl
  have hld1:load PP 28 (.ptr 1 0) [Row.mix (eGr g),.mix (eHs h),.mix [.p (pI 0),.p .nilsl,.p .nilsl,.p .nilsl,.p .nilsl]]=some (.agg (eHs h)):=by rw [load28,QK (vs:=eHs h) g1 rfl (by simp [eHs])]; rfl
  have hg2:(([Row.mix (eGr g),.mix (eHs h),.mix [.p (pI 0),.p .nilsl,.p .nilsl,.p .nilsl,.p .nilsl]]:Qa).set 2 (.mix (eAx zAx)))[2]?=some (.mix (eAx zAx)):=rfl
  have hcv:Vt PP 33 (.ptr 2 0) (([Row.mix (eGr g),.mix (eHs h),.mix [.p (pI 0),.p .nilsl,.p .nilsl,.p .nilsl,.p .nilsl]]:Qa).set 2 (.mix (eAx zAx)))=some (.agg (eAx zAx)):=by
    rw [Ww,VJ hg2]
  refine Qn (by simp [Zx,VD]) rfl (F12_call (r:=(.tuple [.agg (eAx zAx),.p (.int .i64 (errH g h))],([Row.mix (eGr g),.mix (eHs h),.mix [.p (pI 0),.p .nilsl,.p .nilsl,.p .nilsl,.p .nilsl]]:Qa).set 2 (.mix (eAx zAx)))) ?_) rfl
  · rw [F12_eq]
    simp only [pI] at h50 hst hld1 hcv
    simp only [Zo,Wx,Um,gG,List.length_nil,List.nil_append,List.length_cons,List.cons_append,Qe,Qf,Nat.zero_add,Nat.add_zero,Qc,List.append_nil,List.singleton_append,List.cons_append,List.nil_append,Ws g0,hld1,h50,ZO,eqF h0,bld33_0,hst,hcv]
theorem S12 (hg:GOk g) (hh:HOk g h) (hn:g.n≤8) (he:(L g.edges).length≤16) (h0:errH g h=0) (σ:Qa) :
    ∃ B E',ExtG g.n (fun x=>oE (mvH g h x)) (iniH g h) B E'∧Qx CC 12 [.agg (eGr g),.agg (eHs h)] σ=some (.tuple [.agg (eAx (mkX B (nums B (iniH g h)) E')),.p (.int .i64 0)]):=by
  have hil:=Vx hg
  have hnn:=hg.n0
  have hxl:=hh.xl
  have hsl:=hh.sl
  have g0:([Row.mix (eGr g),.mix (eHs h),.mix [.p (pI 0),.p .nilsl,.p .nilsl,.p .nilsl,.p .nilsl]]:Qa)[0]?=some (.mix (eGr g)):=rfl
  have g1:([Row.mix (eGr g),.mix (eHs h),.mix [.p (pI 0),.p .nilsl,.p .nilsl,.p .nilsl,.p .nilsl]]:Qa)[1]?=some (.mix (eHs h)):=rfl
  have g2:([Row.mix (eGr g),.mix (eHs h),.mix [.p (pI 0),.p .nilsl,.p .nilsl,.p .nilsl,.p .nilsl]]:Qa)[2]?=some (.mix [.p (pI 0),.p .nilsl,.p .nilsl,.p .nilsl,.p .nilsl]):=rfl
  have h50:=S50 (h:=h) (fun j hj=>by rw [hh.xr j hj]; decide) (by omega) (by omega) (g:=g) (by omega) (by omega) [Row.mix (eGr g),.mix (eHs h),.mix [.p (pI 0),.p .nilsl,.p .nilsl,.p .nilsl,.p .nilsl]]
  rw [h0] at h50
  have hld1:load PP 28 (.ptr 1 0) [Row.mix (eGr g),.mix (eHs h),.mix [.p (pI 0),.p .nilsl,.p .nilsl,.p .nilsl,.p .nilsl]]=some (.agg (eHs h)):=by rw [load28,QK (vs:=eHs h) g1 rfl (by simp [eHs])]; rfl
  obtain ⟨B,E',ix,ex,bx,ax,σ',r,m,a1,a2,a3,a4,a5,a6,a7⟩:=S51 hg hh hn he [Row.mix (eGr g),.mix (eHs h),.mix [.p (pI 0),.p .nilsl,.p .nilsl,.p .nilsl,.p .nilsl]]
  have hm2:σ'[2]?=some (.mix [.p (pI 0),.p .nilsl,.p .nilsl,.p .nilsl,.p .nilsl]):=(a4 2 (by simp)).trans g2
  have hone5:([.p (pI B.length),ix,ex,bx,ax]:List DV).all DV.one=true:=by
    simp [(Wf a3.re).1,(Wf a3.ri).1,(QQ a3.ob).1,(QQ a3.oa).1]
    rfl
  have hone6:([.p (pI B.length),ix,ex,bx,ax,.map r]:List DV).all DV.one=true:=by
    simp [(Wf a3.re).1,(Wf a3.ri).1,(QQ a3.ob).1,(QQ a3.oa).1]
    exact ⟨rfl,rfl⟩
  have hs1:store PP 0 95 (.ptr σ'.length 0) (.agg [.p (pI B.length),ix,ex,bx,ax,.map r]) (σ'++[Row.mix [.p (pI 0),.p .nilsl,.p .nilsl,.p .nilsl,.p .nilsl,.p .nilmap]])=some (σ'++[Row.mix [.p (pI B.length),ix,ex,bx,ax,.map r]]):=by
    rw [st95 QE rfl rfl hone6,List.set_append_right _ _ (Nat.le_refl _),Nat.sub_self]
    rfl
  have gl:(σ'++[Row.mix [.p (pI B.length),ix,ex,bx,ax,.map r]])[σ'.length]?=some (.mix [.p (pI B.length),ix,ex,bx,ax,.map r]):=QE
  have hl33:load PP 33 (.ptr σ'.length 0) (σ'++[Row.mix [.p (pI B.length),ix,ex,bx,ax,.map r]])=some (.agg [.p (pI B.length),ix,ex,bx,ax]):=by
    rw [load33,QK (vs:=[.p (pI B.length),ix,ex,bx,ax]) gl rfl (by simp)]; rfl
  have hm2':(σ'++[Row.mix [.p (pI B.length),ix,ex,bx,ax,.map r]])[2]?=some (.mix [.p (pI 0),.p .nilsl,.p .nilsl,.p .nilsl,.p .nilsl]):=QV hm2
  have hs2:=st33 (c:=[.p (pI B.length),ix,ex,bx,ax]) hm2' rfl rfl hone5
  have hg2:((σ'++[Row.mix [.p (pI B.length),ix,ex,bx,ax,.map r]]).set 2 (.mix [.p (pI B.length),ix,ex,bx,ax]))[2]?=some (.mix [.p (pI B.length),ix,ex,bx,ax]):=by rw [List.getElem?_set_self (QW hm2')]
  have hcv:Vt PP 33 (.ptr 2 0) ((σ'++[Row.mix [.p (pI B.length),ix,ex,bx,ax,.map r]]).set 2 (.mix [.p (pI B.length),ix,ex,bx,ax]))=some (.agg [.p (pI B.length),ix,ex,bx,ax]):=by
    rw [Ww,load33,QK (vs:=[.p (pI B.length),ix,ex,bx,ax]) hg2 rfl (by simp)]; rfl
  have hgr:=(a3.snoc (.mix [.p (pI B.length),ix,ex,bx,ax,.map r])).setLow (q:=2) (by simp) (.mix [.p (pI B.length),ix,ex,bx,ax])
  refine ⟨B,E',a2,Qn (by simp [Zx,VD]) rfl (F12_call (r:=(.tuple [.agg [.p (pI B.length),ix,ex,bx,ax],.p (.int .i64 0)],(σ'++[Row.mix [.p (pI B.length),ix,ex,bx,ax,.map r]]).set 2 (.mix [.p (pI B.length),ix,ex,bx,ax]))) ?_) (hgr.val 0)⟩
  rw [F12_eq]
  simp only [pI] at h50 hld1 a1
  have e0:decide ((0:Int)=0)=true:=rfl
  simp only [Zo,Wx,Um,gG,List.length_nil,List.nil_append,List.length_cons,List.cons_append,Qe,Qf,Nat.zero_add,Nat.add_zero,Qc,List.append_nil,List.singleton_append,List.cons_append,List.nil_append,Ws g0,hld1,h50,ZO,e0,Qs,a1,ex0,ex1,zero95',hs1,UN,hl33,hs2,hcv]
end
end Go.D.StS
end
/- Chapter 22: the past determines history, in plain terms. -/
section
set_option linter.unusedVariables false
set_option linter.unusedSimpArgs false
namespace Go.D.StS
open Go.D.Srt
theorem any_false {l:List Int} {q:Int→Bool} (h:l.any q=false):∀ i,i<l.length→q (l.getD i 0)=false:=fun i hi=>by
  rw [List.any_eq_false] at h
  have:=h (l.getD i 0) (by rw [QZ 0 hi]; exact List.getElem_mem hi)
  simpa using this
theorem bA_false {n:Int} (h:bA n=false):0≤n∧n≤7:=by
  unfold bA at h
  have:inR n 0 7=true:=by simpa using h
  exact (WF n 0 7).1 this
theorem rowsErr_zero:∀ {l:List OI},Wp l=0→∀ j,j<l.length→VF (l.getD j none)=0
  | [],_,j,hj=>by simp at hj
  | a::l,h,j,hj=>by
    unfold Wp at h
    by_cases h0:VF a=0
    · rw [if_pos h0] at h
      cases j with
      | zero=>exact h0
      | succ j=>exact rowsErr_zero h j (by simpa using hj)
    · rw [if_neg h0] at h
      exact absurd h h0
theorem rowErr_zero {o:OI} (h:VF o=0):(L o).length=8∧(L o).any bA=false:=by
  unfold VF at h
  by_cases h1:(L o).length=8
  · rw [if_pos h1] at h
    cases h2:(L o).any bA with
    | true=>rw [h2] at h; simp at h
    | false=>exact ⟨h1,rfl⟩
  · rw [if_neg h1] at h; exact absurd h (by decide)
theorem errG_zero {g:Gr} (h:errG g=0):GOk g∧g.n≤30∧(L g.edges).length≤120∧(L g.edges).any tk=false:=by
  unfold errG at h
  by_cases h1:isG g=true
  · rw [if_pos h1] at h
    by_cases h2:g.n≤30∧(L g.edges).length≤120
    · rw [if_pos h2] at h
      cases h3:(L g.edges).any tk with
      | true=>rw [h3] at h; simp at h
      | false=>exact ⟨(isG_iff g).1 h1,h2.1,h2.2,rfl⟩
    · rw [if_neg h2] at h; exact absurd h (by decide)
  · rw [if_neg h1] at h; exact absurd h (by decide)
theorem errHR_zero {g:Gr} {h:Hs} (he:US g h=0):HOk g h:=by
  unfold US at he
  by_cases h1:((L h.s).length:Int)=g.n
  · rw [if_pos h1] at he
    cases h2:(L h.s).any bA with
    | true=>rw [h2] at he; simp at he
    | false=>
      rw [h2] at he
      simp only [Bool.false_eq_true,if_false] at he
      by_cases h3:(L h.x).length=(L g.edges).length
      · rw [if_pos h3] at he
        have hr:=fun j hj=>rowErr_zero (rowsErr_zero he j hj)
        exact ⟨h1,fun i hi=>bA_false (any_false h2 i hi),h3,fun j hj=>(hr j hj).1,fun j hj i hi=>bA_false (any_false (hr j hj).2 i (by rw [(hr j hj).1]; exact hi))⟩
      · rw [if_neg h3] at he; exact absurd he (by decide)
  · rw [if_neg h1] at he; exact absurd he (by decide)
theorem fewB_small {g:Gr} (h:fewB g=true) (h1:g.n≤30) (h2:(L g.edges).length≤120):g.n≤8∧(L g.edges).length≤16:=by
  unfold fewB at h
  simp only [Bool.and_eq_true,Bool.or_eq_true,decide_eq_true_iff] at h
  omega
theorem nums_asc {B l:List E} (hB:Asc B) (hasc:Asc l) (hm:∀ x∈l,x∈B):(nums B l).Pairwise (· < ·):=by
  unfold nums
  rw [List.pairwise_map]
  refine List.Pairwise.imp_of_mem (fun {x y} hx hy hlt=>?_) hasc
  have k1:=ZR (hm x hx)
  have k2:=ZR (hm y hy)
  by_cases hle:B.idxOf y≤B.idxOf x
  · exfalso
    rcases Nat.lt_or_eq_of_le hle with hlt2 | heq
    · have:=asc_lt hB hlt2 k1.1
      rw [k1.2,k2.2] at this
      unfold ltB at *; omega
    · have:=k1.2
      rw [←heq,k2.2] at this
      rw [this] at hlt
      unfold ltB at hlt; omega
  · omega
section
variable {n : Int} {M : E → OE} {l B : List E} {E' : List Edg} (hx : ExtG n M l B E')
include hx
theorem ExtG.mem {e:Edg} (he:e∈E'):∃ k,k<B.length∧∃ m∈L (M (ge B k)),e=⟨(k:Int),((B.idxOf (toE m):Nat):Int),m.a⟩∧toE m∈B:=by
  have:=(mem_rawE M B e B 0).1 (hx.pe.mem_iff.1 he)
  obtain ⟨k,hk,m,hm,rfl⟩:=this
  exact ⟨k,hk,m,hm,by rw [Nat.zero_add],hx.cl _ (by rw [ZA hk]; exact List.getElem_mem hk) m hm⟩
theorem ExtG.ok (hn:n≤8) (hl:Asc l) (hM:∀ x∈B,(L (M x)).length≤16) (ha:∀ x∈B,∀ e∈L (M x),0≤e.a∧e.a≤11):GOk (mkX B (nums B l) E').g∧B.length≤64∧E'.length≤1024:=by
  have hBl:B.length≤64:=IG.len ⟨asc_nodup hx.asc,hx.ins⟩ hn
  have hEl:E'.length≤1024:=by
    rw [hx.pe.length_eq]
    have:=rawE_len (M:=M) (B:=B) (c:=16) B 0 hM
    omega
  refine ⟨⟨⟨by simp [mkX],by simp [mkX]; omega⟩,by simp only [mkX,L_oE]; omega,fun s hs=>?_,?_,fun e he=>?_,?_⟩,hBl,hEl⟩
  · simp only [mkX,L_oI,nums,List.mem_map] at hs
    obtain ⟨x,hxl,rfl⟩:=hs
    have:=(ZR (hx.beg x hxl)).1
    simp only [mkX]
    omega
  · simp only [mkX,L_oI]
    exact nums_asc hx.asc hl hx.beg
  · simp only [mkX,L_oE] at he ⊢
    obtain ⟨k,hk,m,hm,rfl,hmB⟩:=hx.mem he
    have h1:=(ZR hmB).1
    have h2:=ha _ (by rw [ZA hk]; exact List.getElem_mem hk) m hm
    simp only
    omega
  · simp only [mkX,L_oE]
    exact hx.po
theorem ExtG.ext0 (hn:n≤8) (hl:Asc l) (hM:∀ x∈B,(L (M x)).length≤16) (ha:∀ x∈B,∀ e∈L (M x),0≤e.a∧e.a≤11):extE (mkX B (nums B l) E')=0:=by
  obtain ⟨h1,h2,h3⟩:=hx.ok hn hl hM ha
  have e1:lenX (mkX B (nums B l) E')=true:=(extE_ok _).2 ⟨by simp [mkX,L_oI],by simp [mkX,L_oI]⟩
  have e2:badX (mkX B (nums B l) E')=false:=by
    unfold badX
    rw [Bool.or_eq_false_iff,List.any_eq_false,List.any_eq_false]
    simp only [mkX,L_oI]
    refine ⟨fun v hv=>?_,fun v hv=>?_⟩
    · rw [List.mem_map] at hv
      obtain ⟨x,hxB,rfl⟩:=hv
      have:=hx.ins x hxB
      unfold InS at this
      have:inR x.1 0 399=true:=(WF _ _ _).2 (by omega)
      simp [bB,this]
    · rw [List.mem_map] at hv
      obtain ⟨x,hxB,rfl⟩:=hv
      have:=hx.ins x hxB
      unfold InS at this
      have:inR x.2 0 7=true:=(WF _ _ _).2 (by omega)
      simp [bA,this]
  have e3:ascX (L (mkX B (nums B l) E').b) (L (mkX B (nums B l) E').a)=true:=by
    unfold ascX
    rw [allFrom_iff]
    intro j hj1 hj2
    simp only [mkX,L_oI,List.length_map] at hj2
    have hlt:=asc_lt hx.asc (show j-1<j by omega) (by omega)
    have q1:∀ i,i<B.length→(B.map Prod.fst).getD i 0=(ge B i).1:=fun i hi=>by rw [QZ 0 (by simpa using hi),ZA hi,List.getElem_map]
    have q2:∀ i,i<B.length→(B.map Prod.snd).getD i 0=(ge B i).2:=fun i hi=>by rw [QZ 0 (by simpa using hi),ZA hi,List.getElem_map]
    unfold ascK
    simp only [mkX,L_oI]
    rw [q1 (j-1) (by omega),q1 j (by omega),q2 (j-1) (by omega),q2 j (by omega)]
    exact decide_eq_true ((cmpB_lt (ge B (j-1)) (ge B j)).2 hlt)
  unfold extE
  rw [if_pos ((isG_iff _).2 h1),if_pos e1,e2,if_neg (by decide),if_pos e3]
end
def det (g:Gr) (B:List E) (s i:Nat) (y:Edg):Bool:=
  decide (y.f=(s:Int))&&(decide ((ge B s).1=(gE (L g.edges) i).f)&&(decide ((ge B y.t.toNat).1=(gE (L g.edges) i).t)&&decide (y.a=(gE (L g.edges) i).a)))
end Go.D.StS
end
/- AuxiliaryDetermined: what the law answers, if awake answers true. -/
section
set_option linter.unusedVariables false
set_option linter.unusedSimpArgs false
namespace Go.D.StS
open Go.D.Srt
section
variable {g : Gr} {x : Ax} {B : List E} {σ : Qa} {r : Nat}
section
variable (hbase:∀ k,k<(L x.b).length→(L x.b).getD k 0=(ge B k).1) (hL:(L x.g.edges).length≤10000) (ht:∀ e∈L x.g.edges,0≤e.t∧e.t.toNat<(L x.b).length) (hn:x.g.n=((L x.b).length:Nat)) (hb:(L x.b).length≤1000) (he:(L g.edges).length≤1000)
  (hdet:∀ s i,s<(L x.b).length→i<(L g.edges).length→(L x.g.edges).countP (det g B s i)=if (ge B s).1=(gE (L g.edges) i).f then 1 else 0)
include hbase hL ht hb he hdet
end
end
end Go.D.StS
end
/- AuxiliaryDetermined: what the law answers, if awake answers true; the whole. -/
section
set_option linter.unusedVariables false
set_option linter.unusedSimpArgs false
namespace Go.D.StS
open Go.D.Srt
theorem any_ok {l:List Int} (h:∀ i,i<l.length→0≤l.getD i 0∧l.getD i 0≤7):l.any bA=false:=by
  rw [List.any_eq_false]
  intro v hv
  obtain ⟨i,hi,rfl⟩:=List.getElem_of_mem hv
  have:=h i hi
  rw [QZ 0 hi] at this
  have:inR l[i] 0 7=true:=(WF _ _ _).2 this
  simp [bA,this]
theorem ownH_x (h:Hs):L (ownH h).x=(L h.x).map fun o=>some (L o):=by
  unfold ownH
  by_cases e:L h.x=[]
  · simp only [if_pos e,e]; rfl
  · simp only [if_neg e]; rfl
theorem VP (h:Hs):(L (ownH h).x).length=(L h.x).length:=by rw [ownH_x,List.length_map]
theorem ownH_row (h:Hs) (j:Nat):L ((L (ownH h).x).getD j none)=L ((L h.x).getD j none):=by
  rw [ownH_x]
  by_cases hj:j<(L h.x).length
  · rw [QZ none (by simpa using hj),QZ none hj,List.getElem_map]; rfl
  · rw [List.getD_eq_getElem?_getD,List.getD_eq_getElem?_getD,List.getElem?_eq_none (by simpa using hj),List.getElem?_eq_none (by omega)]
theorem HOk.own {g:Gr} {h:Hs} (hh:HOk g h):HOk (ownG g) (ownH h):=
  ⟨hh.sl,hh.sv,by rw [VP]; exact hh.xl,fun j hj=>by rw [ownH_row]; rw [VP] at hj; exact hh.xr j hj,fun j hj i hi=>by rw [ownH_row]; rw [VP] at hj; exact hh.xv j hj i hi⟩
theorem GOk.own {g:Gr} (hg:GOk g):GOk (ownG g):=⟨hg.n0,hg.e0,hg.il,hg.ip,hg.el,hg.ep⟩
theorem mvH_own (g:Gr) (h:Hs) (x:E):mvH (ownG g) (ownH h) x=mvH g h x:=by
  unfold mvH
  refine List.map_congr_left fun j _=>?_
  unfold mvE
  rw [ownH_row]
  rfl
theorem mvH_act {g:Gr} {h:Hs} (hg:GOk g) {x:E} {e:Edg} (he:e∈mvH g h x):0≤e.a∧e.a≤11:=by
  unfold mvH at he
  rw [List.mem_map] at he
  obtain ⟨j,hj,rfl⟩:=he
  rw [Uh] at hj
  have h1:=hg.el _ (List.getElem_mem hj.1)
  rw [←Vh hj.1] at h1
  exact h1.2.2
theorem UL {h:Hs} {σ:Qa} {r:Nat} (w:σ[r]?=some (.mix (eHs h))):load PP 28 (.ptr r 0) σ=some (.agg (eHs h)):=by rw [load28,QK (vs:=eHs h) w rfl (by simp [eHs])]; rfl
theorem ax_out (B:List E) (is:List Int) (E':List Edg):(L (mkX B is E').b)=B.map Prod.fst∧(L (mkX B is E').a)=B.map Prod.snd∧L (mkX B is E').g.edges=E'∧L (mkX B is E').g.init=is∧(mkX B is E').g.n=(B.length:Nat):=
  ⟨L_oI _,L_oI _,L_oE _,L_oI _,rfl⟩
section
variable {g : Gr} {h : Hs} (hg : GOk g) (hh : HOk g h) (hn : g.n ≤ 8) (he : (L g.edges).length ≤ 16) (hG : errG g = 0)
include hg hh hn he hG
end
end Go.D.StS
end
/- Equations of functions 60, printed by gen.py. -/
section
set_option linter.unusedVariables false
set_option maxRecDepth 10000
namespace Go.D
open Go.Proofs
noncomputable section
variable (G:Qh) (lo:Nat) {σ:Qa} {r:DV×Qa}
open _root_.Go.D.Code (fstC sndC)
open _root_.Go.D.Ann (left right)
def c60_0:Code:=Qw Tryz.f60
def a60_0:Ann:=(pol 60).ann
def a60_7:Ann:=right (left (right (right a60_0)))
def a60_8:Ann:=left a60_7
def c60_9:Code:=fstC (fstC (sndC (fstC (sndC (sndC c60_0)))))
def c60_19:Code:=sndC (sndC (sndC c60_0))
def a60_19:Ann:=right (right (right a60_0))
def a60_22:Ann:=right (left a60_19)
def a60_23:Ann:=left a60_22
def c60_24:Code:=fstC (fstC (sndC (fstC c60_19)))
def a60_30:Ann:=right (left a60_23)
def a60_35:Ann:=right (right (left a60_30))
def a60_36:Ann:=left a60_35
def c60_37:Code:=fstC (fstC (sndC (sndC (fstC (sndC c60_24)))))
def a60_44:Ann:=left (right (left a60_36))
def c60_50:Code:=sndC (sndC c60_37)
def a60_50:Ann:=right (right (left a60_36))
def c60_51:Code:=sndC c60_19
def a60_51:Ann:=right a60_19
def a60_58:Ann:=right (left (right (right a60_51)))
def a60_59:Ann:=left a60_58
def c60_60:Code:=fstC (fstC (sndC (fstC (sndC (sndC c60_51)))))
def a60_67:Ann:=left (right (left a60_59))
def c60_77:Code:=sndC (sndC c60_60)
def a60_77:Ann:=right (right (left a60_59))
def c60_78:Code:=sndC (sndC (sndC c60_51))
def a60_78:Ann:=right (right (right a60_51))
def a60_81:Ann:=right (left a60_78)
def a60_82:Ann:=left a60_81
def c60_83:Code:=fstC (fstC (sndC (fstC c60_78)))
def a60_90:Ann:=left (right (left a60_82))
def c60_96:Code:=sndC (sndC c60_83)
def a60_96:Ann:=right (right (left a60_82))
def c60_97:Code:=sndC c60_78
def a60_97:Ann:=right a60_78
def a60_100:Ann:=right (left a60_97)
def a60_101:Ann:=left a60_100
def c60_102:Code:=fstC (fstC (sndC (fstC c60_97)))
def a60_109:Ann:=left (right (left a60_101))
def a60_112:Ann:=right (left a60_109)
def a60_113:Ann:=left a60_112
def c60_114:Code:=fstC (fstC (sndC (fstC (fstC (sndC c60_102)))))
def a60_121:Ann:=left (right (left a60_113))
def a60_124:Ann:=right (left a60_121)
def a60_125:Ann:=left a60_124
def c60_126:Code:=fstC (fstC (sndC (fstC (fstC (sndC c60_114)))))
def a60_133:Ann:=left (right (left a60_125))
def c60_139:Code:=sndC (sndC c60_126)
def a60_139:Ann:=right (right (left a60_125))
def c60_140:Code:=sndC (sndC c60_114)
def a60_140:Ann:=right (right (left a60_113))
def c60_141:Code:=sndC (sndC c60_102)
def a60_141:Ann:=right (right (left a60_101))
def c60_142:Code:=sndC c60_97
def a60_142:Ann:=right a60_97
def f60_L0 (a b f m K:DV) (σ:Qa):RS:=
 Qo G PP (pol 60) CC lo (.loop c60_9) a60_8 (a::b::Z::Z::f::m::K::zn 166 []) σ
 (Qk 0 a60_7 (seqC G PP (pol 60) CC lo c60_19 a60_19 (finR PP Tryz.f60.results.toList)))
def f60_L1 (a b f m F:DV) (σ:Qa):RS:=
 Qo G PP (pol 60) CC lo (.loop c60_24) a60_23 (a::b::Z::Z::f::m::Z::F::zn 165 []) σ
 (Qk 2 a60_22 (seqC G PP (pol 60) CC lo c60_51 a60_51 (finR PP Tryz.f60.results.toList)))
def f60_L2 (a b f m F l:DV) (σ:Qa):RS:=
 Qo G PP (pol 60) CC lo (.loop c60_37) a60_36 (a::b::Z::Z::f::m::Z::F::l::zn 164 []) σ
 (Qk 4 a60_35 (Qk 3 a60_30 (QY G PP (pol 60) CC lo c60_24 a60_23 (Qk 2 a60_22 (seqC G PP (pol 60) CC lo c60_51 a60_51 (finR PP Tryz.f60.results.toList))))))
def f60_J0 (a b f m F l ak E H ae aj ar aa J C x B V ac P y Q M ba aw bb Y S T am be bp ao bc az bk:DV) (σ:Qa):RS:=
 (Qk 5 a60_44 (seqC G PP (pol 60) CC lo c60_50 a60_50 (QY G PP (pol 60) CC lo c60_37 a60_36 (Qk 4 a60_35 (Qk 3 a60_30 (QY G PP (pol 60) CC lo c60_24 a60_23 (Qk 2 a60_22 (seqC G PP (pol 60) CC lo c60_51 a60_51 (finR PP Tryz.f60.results.toList))))))))) .normal (a::b::Z::Z::f::m::Z::F::l::zn 21 (ak::E::H::ae::Z::Z::aj::ar::aa::J::C::x::B::V::ac::P::y::Q::M::ba::aw::bb::Y::S::T::am::be::bp::ao::bc::az::bk::zn 111 [])) σ
def f60_L3 (a b f m i g j:DV) (σ:Qa):RS:=
 Qo G PP (pol 60) CC lo (.loop c60_60) a60_59 (a::b::Z::Z::f::m::Z::Z::Z::i::g::j::zn 161 []) σ
 (Qk 6 a60_58 (seqC G PP (pol 60) CC lo c60_78 a60_78 (finR PP Tryz.f60.results.toList)))
def f60_J1 (a b f m i g j br bf b8 cb b9 cv c9 N cm cd bm c8 bz ca cq n cz bg bq bl bn cr ch cn cu cg c7 ci cj cc bu dj db bh:DV) (σ:Qa):RS:=
 (Qk 7 a60_67 (seqC G PP (pol 60) CC lo c60_77 a60_77 (QY G PP (pol 60) CC lo c60_60 a60_59 (Qk 6 a60_58 (seqC G PP (pol 60) CC lo c60_78 a60_78 (finR PP Tryz.f60.results.toList)))))) .normal (a::b::Z::Z::f::m::Z::Z::Z::i::g::j::zn 53 (br::bf::b8::cb::Z::Z::b9::cv::c9::N::cm::cd::bm::c8::bz::ca::cq::n::cz::bg::bq::bl::bn::cr::ch::cn::cu::cg::c7::ci::cj::cc::bu::dj::db::bh::zn 72 [])) σ
def f60_L4 (a b f m i g k:DV) (σ:Qa):RS:=
 Qo G PP (pol 60) CC lo (.loop c60_83) a60_82 (a::b::Z::Z::f::m::Z::Z::Z::i::g::Z::k::zn 160 []) σ
 (Qk 8 a60_81 (seqC G PP (pol 60) CC lo c60_97 a60_97 (finR PP Tryz.f60.results.toList)))
def f60_J2 (a b f m i g k df ee dy dq dk dh di dg dr ai bw eg dz cp ct eh dw ce:DV) (σ:Qa):RS:=
 (Qk 9 a60_90 (seqC G PP (pol 60) CC lo c60_96 a60_96 (QY G PP (pol 60) CC lo c60_83 a60_82 (Qk 8 a60_81 (seqC G PP (pol 60) CC lo c60_97 a60_97 (finR PP Tryz.f60.results.toList)))))) .normal (a::b::Z::Z::f::m::Z::Z::Z::i::g::Z::k::zn 88 (df::ee::dy::dq::Z::Z::dk::dh::di::dg::dr::ai::bw::eg::dz::cp::ct::eh::dw::ce::zn 52 [])) σ
def f60_L5 (b f m i g q:DV) (σ:Qa):RS:=
 Qo G PP (pol 60) CC lo (.loop c60_102) a60_101 (Z::b::Z::Z::f::m::Z::Z::Z::i::g::Z::Z::q::zn 159 []) σ
 (Qk 10 a60_100 (seqC G PP (pol 60) CC lo c60_142 a60_142 (finR PP Tryz.f60.results.toList)))
def f60_L6 (b f m i g q w:DV) (σ:Qa):RS:=
 Qo G PP (pol 60) CC lo (.loop c60_114) a60_113 (Z::b::Z::Z::f::m::Z::Z::Z::i::g::Z::Z::q::w::zn 158 []) σ
 (Qk 12 a60_112 (Qk 11 a60_109 (seqC G PP (pol 60) CC lo c60_141 a60_141 (QY G PP (pol 60) CC lo c60_102 a60_101 (Qk 10 a60_100 (seqC G PP (pol 60) CC lo c60_142 a60_142 (finR PP Tryz.f60.results.toList)))))))
def f60_L7 (b f m i g q w z:DV) (σ:Qa):RS:=
 Qo G PP (pol 60) CC lo (.loop c60_126) a60_125 (Z::b::Z::Z::f::m::Z::Z::Z::i::g::Z::Z::q::w::z::zn 157 []) σ
 (Qk 14 a60_124 (Qk 13 a60_121 (seqC G PP (pol 60) CC lo c60_140 a60_140 (QY G PP (pol 60) CC lo c60_114 a60_113 (Qk 12 a60_112 (Qk 11 a60_109 (seqC G PP (pol 60) CC lo c60_141 a60_141 (QY G PP (pol 60) CC lo c60_102 a60_101 (Qk 10 a60_100 (seqC G PP (pol 60) CC lo c60_142 a60_142 (finR PP Tryz.f60.results.toList)))))))))))
def f60_J3 (b f m i g q w z cw dt fe dm fg ez fh fi g9 ga fj fk fl fm f6 f7 fb fw gb f8 fv fo gc fp fq fx ft gf fc f5 fu:DV) (σ:Qa):RS:=
 (Qk 15 a60_133 (seqC G PP (pol 60) CC lo c60_139 a60_139 (QY G PP (pol 60) CC lo c60_126 a60_125 (Qk 14 a60_124 (Qk 13 a60_121 (seqC G PP (pol 60) CC lo c60_140 a60_140 (QY G PP (pol 60) CC lo c60_114 a60_113 (Qk 12 a60_112 (Qk 11 a60_109 (seqC G PP (pol 60) CC lo c60_141 a60_141 (QY G PP (pol 60) CC lo c60_102 a60_101 (Qk 10 a60_100 (seqC G PP (pol 60) CC lo c60_142 a60_142 (finR PP Tryz.f60.results.toList)))))))))))))) .normal (Z::b::Z::Z::f::m::Z::Z::Z::i::g::Z::Z::q::w::z::zn 123 ([cw,dt,fe,dm,fg,ez,fh,fi,Z,Z,g9,ga,fj,fk,fl,fm,f6,f7,fb,fw,gb,f8,fv,fo,gc,fp,fq,fx,ft,gf,fc,f5,fu,Z])) σ
def F60 (a b:DV) (σ:Qa):RS:=
 Qo G PP (pol 60) CC lo c60_0 a60_0 (a::b::zn 171 []) σ (finR PP Tryz.f60.results.toList)
theorem f60_L0_eq (G:Qh) (hG:Qq G) (lo:Nat) (a b f m K:DV) (σ:Qa):f60_L0 G lo a b f m K σ =
 (len PP 22 a σ).bind fun av=>
 (binOp PP .lss 3 K av).bind fun L=>
 Qj L
 (
 (indexAddr PP 22 a K).bind fun ah=>
 (load PP 3 ah σ).bind fun W=>
 (indexAddr PP 81 m W).bind fun au=>
 (store PP lo 4 au (DV.p (PV.bool true)) σ).bind fun σ2=>
 (binOp PP .add 3 K I1).bind fun o=>
 f60_L0 G lo a b f m o σ2
 )
 (
 f60_L1 G lo a b f m (DV.p (PV.bool true)) σ
 ):=(Qm G hG).trans (by kernel_rfl)
theorem f60_L1_eq (G:Qh) (hG:Qq G) (lo:Nat) (a b f m F:DV) (σ:Qa):f60_L1 G lo a b f m F σ =
 Qj F
 (
 f60_L2 G lo a b f m (DV.p (PV.bool false)) I0 σ
 )
 (
 (Qz PP 33).bind fun z9=>
 (len PP 81 m (σ++[Row.mix z9])).bind fun bj=>
 (makeSlice PP false 22 bj bj (σ++[Row.mix z9])).bind fun r64_13=>
 f60_L3 G lo a b f m (DV.ptr (List.length σ) 0) r64_13.1 I0 r64_13.2
 ):=(Qm G hG).trans (by kernel_rfl)
theorem f60_L2_eq (G:Qh) (hG:Qq G) (lo:Nat) (a b f m F l:DV) (σ:Qa):f60_L2 G lo a b f m F l σ =
 (len PP 106 b σ).bind fun H=>
 (binOp PP .lss 3 l H).bind fun ae=>
 Qj ae
 (
 (indexAddr PP 106 b l).bind fun J=>
 (fieldAddr PP 109 J 0).bind fun C=>
 (load PP 3 C σ).bind fun x=>
 (indexAddr PP 81 m x).bind fun B=>
 (load PP 4 B σ).bind fun V=>
 G _ V true (some (m,σ)) σ fun P σ3=>
 G _ V true (some (b,σ3)) σ3 fun y σ4=>
 G _ V true (some (l,σ4)) σ4 fun Q σ5=>
 Gp G V true (indexAddr PP 106 y Q) σ5 fun M σ6=>
 Gp G V true (fieldAddr PP 109 M 1) σ6 fun ba σ7=>
 Gp G V true (load PP 3 ba σ7) σ7 fun aw σ8=>
 Gp G V true (indexAddr PP 81 P aw) σ8 fun bb σ9=>
 Gp G V true (load PP 4 bb σ9) σ9 fun Y σ10=>
 Gp G V true (unOp .not Y) σ10 fun S σ11=>
 (Qt V S (DV.p (PV.bool false))).bind fun T=>
 Qj T
 (
 (indexAddr PP 106 b l).bind fun ao=>
 (fieldAddr PP 109 ao 1).bind fun bc=>
 (load PP 3 bc σ11).bind fun az=>
 (indexAddr PP 81 m az).bind fun bk=>
 (store PP lo 4 bk (DV.p (PV.bool true)) σ11).bind fun σ12=>
 f60_J0 G lo a b f m (DV.p (PV.bool true)) l l b H ae m b l J C x B V V P y Q M ba aw bb Y S T m b l ao bc az bk σ12
 )
 (
 f60_J0 G lo a b f m F l l b H ae m b l J C x B V V P y Q M ba aw bb Y S T Z Z Z Z Z Z Z σ11
 )
 )
 (
 f60_L1 G lo a b f m F σ
 ):=(Qm G hG).trans (by kernel_rfl)
theorem f60_J0_eq (G:Qh) (lo:Nat) (a b f m F l ak E H ae aj ar aa J C x B V ac P y Q M ba aw bb Y S T am be bp ao bc az bk:DV) (σ:Qa):f60_J0 G lo a b f m F l ak E H ae aj ar aa J C x B V ac P y Q M ba aw bb Y S T am be bp ao bc az bk σ =
 (binOp PP .add 3 l I1).bind fun aq=>
 f60_L2 G lo a b f m F aq σ:=by kernel_rfl
theorem f60_L3_eq (G:Qh) (hG:Qq G) (lo:Nat) (a b f m i g j:DV) (σ:Qa):f60_L3 G lo a b f m i g j σ =
 (len PP 81 m σ).bind fun b8=>
 (binOp PP .lss 3 j b8).bind fun cb=>
 Qj cb
 (
 (indexAddr PP 81 m j).bind fun c9=>
 (load PP 4 c9 σ).bind fun N=>
 Qj N
 (
 (fieldAddr PP 33 i 0).bind fun bm=>
 (fieldAddr PP 25 bm 0).bind fun c8=>
 (load PP 3 c8 σ).bind fun bz=>
 (indexAddr PP 22 g j).bind fun ca=>
 (store PP lo 3 ca bz σ).bind fun σ14=>
 (fieldAddr PP 33 i 0).bind fun cq=>
 (fieldAddr PP 25 cq 0).bind fun n=>
 (load PP 3 n σ14).bind fun cz=>
 (binOp PP .add 3 cz I1).bind fun bg=>
 (fieldAddr PP 33 i 0).bind fun bq=>
 (fieldAddr PP 25 bq 0).bind fun bl=>
 (store PP lo 3 bl bg σ14).bind fun σ15=>
 (fieldAddr PP 33 i 1).bind fun bn=>
 (load PP 22 bn σ15).bind fun cr=>
 (binOp PP .quo 3 j (DV.p (PV.int IntKind.i64 (8)))).bind fun cn=>
 (buildSlice PP none 22 1 [(0,cn)] σ15).bind fun r91_16=>
 (append PP lo false 22 22 cr r91_16.1 r91_16.2).bind fun r92_17=>
 (fieldAddr PP 33 i 2).bind fun c7=>
 (load PP 22 c7 r92_17.2).bind fun ci=>
 (binOp PP .rem 3 j (DV.p (PV.int IntKind.i64 (8)))).bind fun cc=>
 (buildSlice PP none 22 1 [(0,cc)] r92_17.2).bind fun r97_18=>
 (append PP lo false 22 22 ci r97_18.1 r97_18.2).bind fun r98_19=>
 (fieldAddr PP 33 i 1).bind fun db=>
 (store PP lo 22 db r92_17.1 r98_19.2).bind fun σ20=>
 (fieldAddr PP 33 i 2).bind fun bh=>
 (store PP lo 22 bh r98_19.1 σ20).bind fun σ21=>
 bif (true&&((List.all [σ15,σ15,σ15,σ15,σ15,r91_16.2,r92_17.2,r92_17.2,r92_17.2,r92_17.2,r92_17.2,r97_18.2] fun s=>Jh (load PP 22 c7 r92_17.2) (load PP 22 c7 s))&&true)) then
 f60_J1 G lo a b f m i g j j m b8 cb m j c9 N g j bm c8 bz ca cq n cz bg bq bl bn cr j cn r91_16.1 r92_17.1 c7 ci j cc r97_18.1 r98_19.1 db bh σ21
 else none
 )
 (
 f60_J1 G lo a b f m i g j j m b8 cb m j c9 N Z Z Z Z Z Z Z Z Z Z Z Z Z Z Z Z Z Z Z Z Z Z Z Z Z Z σ
 )
 )
 (
 f60_L4 G lo a b f m i g I0 σ
 ):=(Qm G hG).trans (by kernel_rfl)
theorem f60_J1_eq (G:Qh) (lo:Nat) (a b f m i g j br bf b8 cb b9 cv c9 N cm cd bm c8 bz ca cq n cz bg bq bl bn cr ch cn cu cg c7 ci cj cc bu dj db bh:DV) (σ:Qa):f60_J1 G lo a b f m i g j br bf b8 cb b9 cv c9 N cm cd bm c8 bz ca cq n cz bg bq bl bn cr ch cn cu cg c7 ci cj cc bu dj db bh σ =
 (binOp PP .add 3 j I1).bind fun bt=>
 f60_L3 G lo a b f m i g bt σ:=by kernel_rfl
theorem f60_L4_eq (G:Qh) (hG:Qq G) (lo:Nat) (a b f m i g k:DV) (σ:Qa):f60_L4 G lo a b f m i g k σ =
 (len PP 81 m σ).bind fun dy=>
 (binOp PP .lss 3 k dy).bind fun dq=>
 Qj dq
 (
 (Qi CC (DV.fn 62 []) [a,k] σ).bind fun di=>
 Qj di
 (
 (fieldAddr PP 33 i 0).bind fun dg=>
 (fieldAddr PP 25 dg 1).bind fun dr=>
 (load PP 22 dr σ).bind fun ai=>
 (indexAddr PP 22 g k).bind fun dz=>
 (load PP 3 dz σ).bind fun cp=>
 (buildSlice PP none 22 1 [(0,cp)] σ).bind fun r117_22=>
 (append PP lo false 22 22 ai r117_22.1 r117_22.2).bind fun r118_23=>
 (fieldAddr PP 33 i 0).bind fun dw=>
 (fieldAddr PP 25 dw 1).bind fun ce=>
 (store PP lo 22 ce r118_23.1 r118_23.2).bind fun σ24=>
 f60_J2 G lo a b f m i g k k m dy dq a k di dg dr ai g k dz cp r117_22.1 r118_23.1 dw ce σ24
 )
 (
 f60_J2 G lo a b f m i g k k m dy dq a k di Z Z Z Z Z Z Z Z Z Z Z σ
 )
 )
 (
 f60_L5 G lo b f m i g I0 σ
 ):=(Qm G hG).trans (by kernel_rfl)
theorem f60_J2_eq (G:Qh) (lo:Nat) (a b f m i g k df ee dy dq dk dh di dg dr ai bw eg dz cp ct eh dw ce:DV) (σ:Qa):f60_J2 G lo a b f m i g k df ee dy dq dk dh di dg dr ai bw eg dz cp ct eh dw ce σ =
 (binOp PP .add 3 k I1).bind fun ef=>
 f60_L4 G lo a b f m i g ef σ:=by kernel_rfl
theorem f60_L5_eq (G:Qh) (hG:Qq G) (lo:Nat) (b f m i g q:DV) (σ:Qa):f60_L5 G lo b f m i g q σ =
 (len PP 81 m σ).bind fun dl=>
 (binOp PP .lss 3 q dl).bind fun en=>
 Qj en
 (
 f60_L6 G lo b f m i g q I0 σ
 )
 (
 (load PP 33 i σ).bind fun gd=>
 (store PP lo 33 f gd σ).bind fun σ36=>
 (Vt PP 33 f σ36).bind fun v0=>
 some (v0,σ36)
 ):=(Qm G hG).trans (by kernel_rfl)
theorem f60_L6_eq (G:Qh) (hG:Qq G) (lo:Nat) (b f m i g q w:DV) (σ:Qa):f60_L6 G lo b f m i g q w σ =
 (len PP 81 m σ).bind fun dc=>
 (binOp PP .lss 3 w dc).bind fun dx=>
 G _ dx true (some (m,σ)) σ fun er σ25=>
 G _ dx true (some (q,σ25)) σ25 fun ej σ26=>
 Gp G dx true (indexAddr PP 81 er ej) σ26 fun ek σ27=>
 Gp G dx true (load PP 4 ek σ27) σ27 fun et σ28=>
 (Qt dx et (DV.p (PV.bool false))).bind fun de=>
 Qj de
 (
 f60_L7 G lo b f m i g q w I0 σ28
 )
 (
 (binOp PP .add 3 q I1).bind fun du=>
 f60_L5 G lo b f m i g du σ28
 ):=(Qm G hG).trans (by kernel_rfl)
theorem f60_L7_eq (G:Qh) (hG:Qq G) (lo:Nat) (b f m i g q w z:DV) (σ:Qa):f60_L7 G lo b f m i g q w z σ =
 (binOp PP .lss 3 z (DV.p (PV.int IntKind.i64 (12)))).bind fun dt=>
 G _ dt true (some (m,σ)) σ fun dm σ29=>
 G _ dt true (some (w,σ29)) σ29 fun fg σ30=>
 Gp G dt true (indexAddr PP 81 dm fg) σ30 fun ez σ31=>
 Gp G dt true (load PP 4 ez σ31) σ31 fun fh σ32=>
 (Qt dt fh (DV.p (PV.bool false))).bind fun fi=>
 Qj fi
 (
 (build PP 109 [(0,q),(1,w),(2,z)]).bind fun fl=>
 (Qi CC (DV.fn 94 []) [b,fl] σ32).bind fun fm=>
 Qj fm
 (
 (fieldAddr PP 33 i 0).bind fun f6=>
 (fieldAddr PP 25 f6 2).bind fun f7=>
 (load PP 23 f7 σ32).bind fun fb=>
 (indexAddr PP 22 g q).bind fun f8=>
 (load PP 3 f8 σ32).bind fun fv=>
 (indexAddr PP 22 g w).bind fun fp=>
 (load PP 3 fp σ32).bind fun fq=>
 (build PP 69 [(0,fv),(1,fq),(2,z)]).bind fun ft=>
 (buildSlice PP none 23 1 [(0,ft)] σ32).bind fun r168_33=>
 (append PP lo false 23 23 fb r168_33.1 r168_33.2).bind fun r169_34=>
 (fieldAddr PP 33 i 0).bind fun f5=>
 (fieldAddr PP 25 f5 2).bind fun fu=>
 (store PP lo 23 fu r169_34.1 r169_34.2).bind fun σ35=>
 f60_J3 G lo b f m i g q w z z dt dt dm fg ez fh fi b q w z fl fm f6 f7 fb g q f8 fv g w fp fq z ft r168_33.1 r169_34.1 f5 fu σ35
 )
 (
 f60_J3 G lo b f m i g q w z z dt dt dm fg ez fh fi b q w z fl fm Z Z Z Z Z Z Z Z Z Z Z Z Z Z Z Z Z σ32
 )
 )
 (
 (binOp PP .add 3 w I1).bind fun ea=>
 f60_L6 G lo b f m i g q ea σ32
 ):=(Qm G hG).trans (by kernel_rfl)
theorem f60_J3_eq (G:Qh) (lo:Nat) (b f m i g q w z cw dt fe dm fg ez fh fi g9 ga fj fk fl fm f6 f7 fb fw gb f8 fv fo gc fp fq fx ft gf fc f5 fu:DV) (σ:Qa):f60_J3 G lo b f m i g q w z cw dt fe dm fg ez fh fi g9 ga fj fk fl fm f6 f7 fb fw gb f8 fv fo gc fp fq fx ft gf fc f5 fu σ =
 (binOp PP .add 3 z I1).bind fun gu=>
 f60_L7 G lo b f m i g q w gu σ:=by kernel_rfl
theorem F60_eq (G:Qh) (lo:Nat) (a b:DV) (σ:Qa):F60 G lo a b σ =
 (Qz PP 33).bind fun z4=>
 (makeSlice PP false 81 (DV.p (PV.int IntKind.i64 (240))) (DV.p (PV.int IntKind.i64 (240))) (σ++[Row.mix z4])).bind fun r16_1=>
 f60_L0 G lo a b (DV.ptr (List.length σ) 0) r16_1.1 I0 r16_1.2:=by kernel_rfl
theorem F60_call {lo:Nat} {a b:DV} (h:F60 Qb lo a b σ=some r):CC lo 60 [a,b] σ=some r:=
 callL_run Tryz.func60 (by decide +kernel) rfl (by decide +kernel) h
end
end Go.D
end
/- Chapter 22: the reference's extended graph: what is reached. -/
section
set_option linter.unusedVariables false
set_option linter.unusedSimpArgs false
namespace Go.D.StS
open Go.D.Srt
theorem zero4:Qz PP 4=some [.p (.bool false)]:=Eq.trans (by kernel_rfl) rfl
theorem bytes4:bytes? PP 4=some 1:=Eq.trans (by kernel_rfl) rfl
theorem u81:PP.underlying 81=some (.slice 4):=Eq.trans (by kernel_rfl) rfl
theorem dups_one {α:Type} (x:α):∀ n,dups [x] n=List.replicate n x
  | 0=>rfl
  | n+1=>by simp [dups,dups_one x n,List.replicate_succ]
theorem pures_bools (n:Nat):VN (List.replicate n (.p (.bool false)))=some (Wl (List.replicate n false)):=by
  have:=Wc (Wl (List.replicate n false))
  simpa [Wl] using this
theorem pures_ints (n:Nat):VN (List.replicate n (.p (pI 0)))=some (Qu (List.replicate n 0)):=by
  have:=Wc (Qu (List.replicate n 0))
  simpa [Qu] using this
theorem mk81 {n:Nat} (h:n≤1000) (σ:Qa):makeSlice PP false 81 (.p (.int .i64 (n:Nat))) (.p (.int .i64 (n:Nat))) σ=some (.rsl σ.length 1 0 n,σ++[.arr (Wl (List.replicate n false))]):=by
  have h1:(n:Int)≤140737488355328:=by omega
  simp [makeSlice,u81,s4,bytes4,zero4,h1,newRow,dups_one,pures_bools]
theorem mk22 {n:Nat} (h:n≤1000) (σ:Qa):makeSlice PP false 22 (.p (.int .i64 (n:Nat))) (.p (.int .i64 (n:Nat))) σ=some (.rsl σ.length 1 0 n,σ++[.arr (Qu (List.replicate n 0))]):=by
  have h1:(n:Int)≤140737488355328:=by omega
  have h2:8*(n:Int)≤140737488355328:=by omega
  simp [makeSlice,u22,s3,VH,Ur,h1,h2,newRow,dups_one,pures_ints]
theorem Jb {r n:Nat} {i:Int} (h0:0≤i) (h:i.toNat<n):indexAddr PP 81 (.rsl r 1 0 n) (.p (.int .i64 i))=some (.ptr r i.toNat):=by
  have h2:(0:Int)≤i∧i<(n:Nat):=by omega
  simp [indexAddr,u81,s4,h2]
theorem idx22a {r n:Nat} {i:Int} (h0:0≤i) (h:i.toNat<n):indexAddr PP 22 (.rsl r 1 0 n) (.p (.int .i64 i))=some (.ptr r i.toNat):=by
  have h2:(0:Int)≤i∧i<(n:Nat):=by omega
  simp [indexAddr,u22,s3,h2]
theorem Ui (r n:Nat) (σ:Qa):len PP 81 (.rsl r 1 0 n) σ=some (.p (.int .i64 (n:Nat))):=by simp [len,u81]
theorem drop_one {α:Type} {l:List α} {i:Nat} {x:α} (h:l[i]?=some x):(l.drop i).take 1=[x]:=by
  obtain ⟨h1,h2⟩:=List.getElem?_eq_some_iff.1 h
  rw [List.drop_eq_getElem_cons h1,h2]; rfl
theorem ldArr {σ:Qa} {r t:Nat} {l:List PV} {v:PV} (h:σ[r]?=some (.arr l)) (ht:l[t]?=some v):ZG (.ptr r t) σ=some (.p v):=by
  have h1:t+1≤l.length:=(List.getElem?_eq_some_iff.1 ht).1
  have h2:=drop_one ht
  simp [ZG,Wh,h,h1,h2]
theorem UJ {σ:Qa} {r t:Nat} {S:List Bool} (h:σ[r]?=some (.arr (Wl S))) (ht:t<S.length):ZG (.ptr r t) σ=some (.p (.bool (S.getD t false))):=
  ldArr h (by simp [Wl,List.getD_eq_getElem?_getD,ht])
theorem ldInt {σ:Qa} {r t:Nat} {l:List Int} (h:σ[r]?=some (.arr (Qu l))) (ht:t<l.length):ZG (.ptr r t) σ=some (.p (.int .i64 (l.getD t 0))):=
  ldArr h (by simp [Qu,List.getD_eq_getElem?_getD,ht])
theorem stArr {σ:Qa} {r t:Nat} {l:List PV} {v:PV} (h:σ[r]?=some (.arr l)) (ht:t<l.length):Zs 0 [.p v] σ (.ptr r t)=some (σ.set r (.arr (l.set t v))):=by
  have h1:t+1≤l.length:=ht
  have h2:QS l t [v]=l.set t v:=by
    unfold QS
    rw [List.set_eq_take_append_cons_drop]
    simp [ht]
  simp [Zs,h,VN,DV.pure?,h1,h2]
theorem st4 {σ:Qa} {r t:Nat} {S:List Bool} {b:Bool} (h:σ[r]?=some (.arr (Wl S))) (ht:t<S.length):store PP 0 4 (.ptr r t) (.p (.bool b)) σ=some (σ.set r (.arr (Wl (S.set t b)))):=by
  have h1:=stArr (v:=.bool b) h (show t<(Wl S).length by rw [bools_length]; exact ht)
  have e:(DV.p (.bool b)).cells=[.p (.bool b)]:=rfl
  have e2:(Wl S).set t (.bool b)=Wl (S.set t b):=by simp [Wl,List.map_set]
  rw [e2] at h1
  simp only [store,s4,e,List.length_cons,List.length_nil,if_true]
  exact h1
theorem st3a {σ:Qa} {r t:Nat} {l:List Int} {b:Int} (h:σ[r]?=some (.arr (Qu l))) (ht:t<l.length):store PP 0 3 (.ptr r t) (.p (.int .i64 b)) σ=some (σ.set r (.arr (Qu (l.set t b)))):=by
  have h1:=stArr (v:=.int .i64 b) h (show t<(Qu l).length by rw [ints_length]; exact ht)
  have e:(DV.p (.int .i64 b)).cells=[.p (.int .i64 b)]:=rfl
  have e2:(Qu l).set t (.int .i64 b)=Qu (l.set t b):=by simp [Qu,List.map_set]
  rw [e2] at h1
  simp only [store,s3,e,List.length_cons,List.length_nil,if_true]
  exact h1
theorem u106:PP.underlying 106=some (.slice 109):=Eq.trans (by kernel_rfl) rfl
theorem s109:size? PP 109=some 3:=Eq.trans (by kernel_rfl) rfl
theorem fa109_0 (x:DV):fieldAddr PP 109 x 0=QO x 0:=Eq.trans (by kernel_rfl) rfl
theorem fa109_1 (x:DV):fieldAddr PP 109 x 1=QO x 1:=Eq.trans (by kernel_rfl) rfl
theorem UI (q:OE) (σ:Qa):len PP 106 (.p (eEs q)) σ=some (.p (.int .i64 ((L q).length:Nat))):=by cases q <;> simp [len,u106,eEs]
theorem idx106 {q:OE} {i:Nat} (h:i<(L q).length):indexAddr PP 106 (.p (eEs q)) (.p (.int .i64 (i:Nat)))=some (.pptr (Ze (L q)) (i*3)):=by
  cases q with
  | none=>exact absurd h (by simp [L])
  | some l=>
    have h2:(0:Int)≤(i:Int)∧(i:Int)<(l.length:Nat):=by
      simp only [L,Option.getD_some] at h; omega
    simp [indexAddr,u106,s109,eEs,h2,L]
structure MvOk (l:List Int) (q:List Edg):Prop where
  f:∀ v∈l,0≤v∧v<240
  m:∀ e∈q,(0≤e.f∧e.f<240)∧(0≤e.t∧e.t<240)∧(0≤e.a∧e.a≤11)
  ll:l.length≤1000
  ql:q.length≤10000
inductive RchB (l:List Int) (q:List Edg):Int→Prop
  | init {v:Int}:v∈l→RchB l q v
  | step {e:Edg}:RchB l q e.f→e∈q→RchB l q e.t
def Z5:List DV:=[.p (pI 0),.p .nilsl,.p .nilsl,.p .nilsl,.p .nilsl]
def st2 (S:List Bool):Qa:=[.mix Z5,.arr (Wl S)]
def SD (S:List Bool) (v:Int):Bool:=S.getD v.toNat false
def SndB (l:List Int) (q:List Edg) (S:List Bool):Prop:=∀ n,n<240→S.getD n false=true→RchB l q (n:Int)
theorem set_getD (S:List Bool) {t:Nat} (ht:t<S.length) (n:Nat):(S.set t true).getD n false=if t=n then true else S.getD n false:=by
  rw [List.getD_eq_getElem?_getD,List.getElem?_set,List.getD_eq_getElem?_getD]
  by_cases h:t=n
  · subst h; simp [ht]
  · simp [h]
section
variable {o : OI} {q : OE} (hk : MvOk (L o) (L q))
include hk
theorem bl_L0:∀ (d i:Nat) (S:List Bool),(L o).length-i=d→i≤(L o).length→S.length=240→SndB (L o) (L q) S→(∀ j,j<i→SD S ((L o).getD j 0)=true)→
    ∃ S',f60_L0 Qb 0 (.p (eSl o)) (.p (eEs q)) (.ptr 0 0) (.rsl 1 1 0 240) (N i) (st2 S)=f60_L1 Qb 0 (.p (eSl o)) (.p (eEs q)) (.ptr 0 0) (.rsl 1 1 0 240) (.p (.bool true)) (st2 S')∧
      S'.length=240∧SndB (L o) (L q) S'∧(∀ j,j<(L o).length→SD S' ((L o).getD j 0)=true)
  | 0,i,S,hd,hi,hS,hs,hf=>by
    have hll:=hk.ll
    refine ⟨S,?_,hS,hs,fun j hj=>hf j (by omega)⟩
    rw [f60_L0_eq Qb rfl]
    simp (disch:=omega) only [N,QP,Qp,ltF,gG]
  | d+1,i,S,hd,hi,hS,hs,hf=>by
    have hll:=hk.ll
    have hil:i<(L o).length:=by omega
    have hv:=hk.f _ (List.getElem_mem hil)
    rw [←QZ 0 hil] at hv
    have ix:=Wn (o:=o) (i:=i) hil
    have ld:=QD (l:=L o) hil (st2 S)
    simp only [pI] at ld
    have ixs:=Jb (r:=1) (n:=240) hv.1 (by omega)
    have w1:(st2 S)[1]?=some (.arr (Wl S)):=rfl
    have hst:=st4 (b:=true) w1 (t:=((L o).getD i 0).toNat) (by omega)
    have e2:(st2 S).set 1 (.arr (Wl (S.set ((L o).getD i 0).toNat true)))=st2 (S.set ((L o).getD i 0).toNat true):=rfl
    rw [e2] at hst
    have htl:((L o).getD i 0).toNat<S.length:=by omega
    obtain ⟨S',r1,r2⟩:=bl_L0 d (i+1) (S.set ((L o).getD i 0).toNat true) (by omega) (by omega) (by simpa using hS) (fun n hn hh=>by
      rw [set_getD S htl] at hh
      by_cases e:((L o).getD i 0).toNat=n
      · have:((n:Nat):Int)=(L o).getD i 0:=by omega
        rw [this,QZ 0 hil]
        exact .init (List.getElem_mem hil)
      · rw [if_neg e] at hh
        exact hs n hn hh) (fun j hj=>by
      unfold SD
      rw [set_getD S htl]
      by_cases e:((L o).getD i 0).toNat=((L o).getD j 0).toNat
      · rw [if_pos e]
      · rw [if_neg e]
        refine hf j ?_
        by_cases e3:j=i
        · subst e3; exact absurd rfl e
        · omega)
    refine ⟨S',?_,r2⟩
    rw [←r1,f60_L0_eq Qb rfl]
    simp (disch:=omega) only [N,QP,Qp,ltT,gG,ix,QJ,ld,ixs,hst,add1]
def Sub (S S':List Bool):Prop:=∀ n,S.getD n false=true→S'.getD n false=true
def cntT (S:List Bool):Nat:=S.countP id
omit hk in
theorem cnt_set {S:List Bool} {t:Nat} (ht:t<S.length) (h:S.getD t false=false):cntT (S.set t true)=cntT S+1:=by
  have e:S=S.take t++(S[t]::S.drop (t+1)):=by rw [←List.drop_eq_getElem_cons ht,List.take_append_drop]
  have h2:S[t]=false:=by rw [←h,List.getD_eq_getElem?_getD,List.getElem?_eq_getElem ht]; rfl
  unfold cntT
  rw [List.set_eq_take_append_cons_drop,if_pos ht,List.countP_append,List.countP_cons_of_pos rfl]
  conv=>rhs; rw [e]
  rw [List.countP_append,h2,List.countP_cons_of_neg (by simp)]
  omega
theorem bl_L2:∀ (d i:Nat) (S:List Bool) (ag:Bool),(L q).length-i=d→i≤(L q).length→S.length=240→SndB (L o) (L q) S→
    ∃ S' ag',f60_L2 Qb 0 (.p (eSl o)) (.p (eEs q)) (.ptr 0 0) (.rsl 1 1 0 240) (.p (.bool ag)) (N i) (st2 S)=f60_L1 Qb 0 (.p (eSl o)) (.p (eEs q)) (.ptr 0 0) (.rsl 1 1 0 240) (.p (.bool ag')) (st2 S')∧
      S'.length=240∧SndB (L o) (L q) S'∧Sub S S'∧cntT S≤cntT S'∧(ag'=true→ag=true∨cntT S<cntT S')∧(ag'=false→S'=S∧∀ j,i≤j→j<(L q).length→SD S (gE (L q) j).f=true→SD S (gE (L q) j).t=true)∧(ag=true→ag'=true)
  | 0,i,S,ag,hd,hi,hS,hs=>by
    have hql:=hk.ql
    refine ⟨S,ag,?_,hS,hs,fun n h=>h,Nat.le_refl _,fun h=>.inl h,fun h=>⟨rfl,fun j h1 h2=>by omega⟩,fun h=>h⟩
    rw [f60_L2_eq Qb rfl]
    simp (disch:=omega) only [N,UI,Qp,ltF,gG]
  | d+1,i,S,ag,hd,hi,hS,hs=>by
    have hql:=hk.ql
    have hil:i<(L q).length:=by omega
    have hv:=hk.m _ (List.getElem_mem hil)
    rw [←Vh hil] at hv
    obtain ⟨v1,v2,v3⟩:=hv
    have ix:=idx106 (q:=q) (i:=i) hil
    have lf:=ldEf hil (st2 S)
    have lt:=ldEt hil (st2 S)
    have ixf:=Jb (r:=1) (n:=240) v1.1 (by omega)
    have ixt:=Jb (r:=1) (n:=240) v2.1 (by omega)
    have w1:(st2 S)[1]?=some (.arr (Wl S)):=rfl
    have lbf:=UJ w1 (t:=(gE (L q) i).f.toNat) (by omega)
    have lbt:=UJ w1 (t:=(gE (L q) i).t.toNat) (by omega)
    have htl:(gE (L q) i).t.toNat<S.length:=by omega
    have hst:=st4 (b:=true) w1 (t:=(gE (L q) i).t.toNat) (by omega)
    have e2:(st2 S).set 1 (.arr (Wl (S.set (gE (L q) i).t.toNat true)))=st2 (S.set (gE (L q) i).t.toNat true):=rfl
    rw [e2] at hst
    cases hf:S.getD (gE (L q) i).f.toNat false with
    | false=>
      obtain ⟨S',ag',r1,r2,r3,r4,r5,r6,r7,r8⟩:=bl_L2 d (i+1) S ag (by omega) (by omega) hS hs
      refine ⟨S',ag',?_,r2,r3,r4,r5,r6,fun h=>⟨(r7 h).1,fun j h1 h2 h3=>?_⟩,r8⟩
      · rw [←r1,f60_L2_eq Qb rfl]
        rw [hf] at lbf
        simp (disch:=omega) only [N,UI,Qp,ltT,gG,ix,fa109_0,Qe,Qf,Nat.zero_add,Nat.add_zero,Qc,List.append_nil,List.singleton_append,List.cons_append,List.nil_append,QJ,lf,ixf,UG,lbf,f60_J0_eq,add1]
      · by_cases e:j=i
        · subst e; unfold SD at h3; rw [hf] at h3; exact absurd h3 (by decide)
        · exact (r7 h).2 j (by omega) h2 h3
    | true=>
      cases ht:S.getD (gE (L q) i).t.toNat false with
      | true=>
        obtain ⟨S',ag',r1,r2,r3,r4,r5,r6,r7,r8⟩:=bl_L2 d (i+1) S ag (by omega) (by omega) hS hs
        refine ⟨S',ag',?_,r2,r3,r4,r5,r6,fun h=>⟨(r7 h).1,fun j h1 h2 h3=>?_⟩,r8⟩
        · rw [←r1,f60_L2_eq Qb rfl]
          rw [hf] at lbf
          rw [ht] at lbt
          simp (disch:=omega) only [N,UI,Qp,ltT,gG,ix,fa109_0,fa109_1,Qe,Qf,Nat.zero_add,Nat.add_zero,Qc,List.append_nil,List.singleton_append,List.cons_append,List.nil_append,QJ,lf,lt,ixf,ixt,UG,lbf,lbt,f60_J0_eq,add1]
        · by_cases e:j=i
          · subst e; exact ht
          · exact (r7 h).2 j (by omega) h2 h3
      | false=>
        have hc:=cnt_set htl ht
        obtain ⟨S',ag',r1,r2,r3,r4,r5,r6,r7,r8⟩:=bl_L2 d (i+1) (S.set (gE (L q) i).t.toNat true) true (by omega) (by omega) (by simpa using hS) (fun n hn hh=>by
          rw [set_getD S htl] at hh
          by_cases e:(gE (L q) i).t.toNat=n
          · have e1:((n:Nat):Int)=(gE (L q) i).t:=by omega
            have e3:=hs (gE (L q) i).f.toNat (by omega) hf
            rw [e1]
            have e4:(((gE (L q) i).f.toNat:Nat):Int)=(gE (L q) i).f:=by omega
            rw [e4] at e3
            exact .step e3 (by rw [Vh hil]; exact List.getElem_mem hil)
          · rw [if_neg e] at hh
            exact hs n hn hh)
        have hsub:Sub S (S.set (gE (L q) i).t.toNat true):=fun n h=>by
          rw [set_getD S htl]
          split
          · rfl
          · exact h
        have hag:ag'=true:=r8 rfl
        refine ⟨S',ag',?_,r2,r3,fun n h=>r4 n (hsub n h),by omega,fun _=>.inr (by omega),fun h=>by rw [hag] at h; exact absurd h (by decide),fun _=>hag⟩
        rw [←r1,f60_L2_eq Qb rfl]
        rw [hf] at lbf
        rw [ht] at lbt
        simp (disch:=omega) only [N,UI,Qp,ltT,gG,ix,fa109_0,fa109_1,Qe,Qf,Nat.zero_add,Nat.add_zero,Qc,List.append_nil,List.singleton_append,List.cons_append,List.nil_append,QJ,lf,lt,ixf,ixt,UG,lbf,lbt,hst,f60_J0_eq,add1]
theorem bl_L1:∀ (d:Nat) (S:List Bool),240-cntT S≤d→S.length=240→SndB (L o) (L q) S→
    ∃ S',f60_L1 Qb 0 (.p (eSl o)) (.p (eEs q)) (.ptr 0 0) (.rsl 1 1 0 240) (.p (.bool true)) (st2 S)=f60_L3 Qb 0 (.p (eSl o)) (.p (eEs q)) (.ptr 0 0) (.rsl 1 1 0 240) (.ptr 2 0) (.rsl 3 1 0 240) (N 0) (st2 S'++[.mix Z5,.arr (Qu (List.replicate 240 0))])∧
      S'.length=240∧SndB (L o) (L q) S'∧Sub S S'∧(∀ e∈L q,SD S' e.f=true→SD S' e.t=true):=by
  intro d
  induction d with
  | zero=>
    intro S hd hS hs
    obtain ⟨S',ag',r1,r2,r3,r4,r5,r6,r7,r8⟩:=bl_L2 hk _ 0 S false rfl (Nat.zero_le _) hS hs
    have hc:cntT S'≤240:=by rw [←r2]; exact List.countP_le_length
    cases ag' with
    | true=>
      rcases r6 rfl with h | h
      · exact absurd h (by decide)
      · omega
    | false=>
      obtain ⟨rfl,h7⟩:=r7 rfl
      refine ⟨S',?_,r2,r3,r4,fun e he=>?_⟩
      · rw [f60_L1_eq Qb rfl]
        simp only [gG]
        refine r1.trans ?_
        rw [f60_L1_eq Qb rfl]
        have e1:(st2 S'++[Row.mix Z5]).length=3:=rfl
        have e2:(st2 S').length=2:=rfl
        have hmk:=mk22 (n:=240) (by decide) (st2 S'++[.mix Z5])
        have hz:Qz PP 33=some Z5:=Um
        rw [e1] at hmk
        simp only [gG,hz,Ui,hmk,e2,List.append_assoc,List.cons_append,List.nil_append]
        rfl
      · obtain ⟨j,hj,rfl⟩:=List.getElem_of_mem he
        have:=h7 j (Nat.zero_le _) hj
        rwa [Vh hj] at this
  | succ d ih=>
    intro S hd hS hs
    obtain ⟨S',ag',r1,r2,r3,r4,r5,r6,r7,r8⟩:=bl_L2 hk _ 0 S false rfl (Nat.zero_le _) hS hs
    have hc:cntT S'≤240:=by rw [←r2]; exact List.countP_le_length
    cases ag' with
    | true=>
      rcases r6 rfl with h | h
      · exact absurd h (by decide)
      · obtain ⟨S2,w1,w2,w3,w4,w5⟩:=ih S' (by omega) r2 r3
        refine ⟨S2,?_,w2,w3,fun n hn=>w4 n (r4 n hn),w5⟩
        rw [←w1,←r1,f60_L1_eq Qb rfl]
        simp only [gG]
        rfl
    | false=>
      obtain ⟨rfl,h7⟩:=r7 rfl
      refine ⟨S',?_,r2,r3,r4,fun e he=>?_⟩
      · rw [f60_L1_eq Qb rfl]
        simp only [gG]
        refine r1.trans ?_
        rw [f60_L1_eq Qb rfl]
        have e1:(st2 S'++[Row.mix Z5]).length=3:=rfl
        have e2:(st2 S').length=2:=rfl
        have hmk:=mk22 (n:=240) (by decide) (st2 S'++[.mix Z5])
        have hz:Qz PP 33=some Z5:=Um
        rw [e1] at hmk
        simp only [gG,hz,Ui,hmk,e2,List.append_assoc,List.cons_append,List.nil_append]
        rfl
      · obtain ⟨j,hj,rfl⟩:=List.getElem_of_mem he
        have:=h7 j (Nat.zero_le _) hj
        rwa [Vh hj] at this
theorem bl_seen:∃ S,S.length=240∧(∀ v,0≤v→v<240→(SD S v=true↔RchB (L o) (L q) v))∧
    F60 Qb 0 (.p (eSl o)) (.p (eEs q)) []=f60_L3 Qb 0 (.p (eSl o)) (.p (eEs q)) (.ptr 0 0) (.rsl 1 1 0 240) (.ptr 2 0) (.rsl 3 1 0 240) (N 0) (st2 S++[.mix Z5,.arr (Qu (List.replicate 240 0))]):=by
  have e0:∀ n,(List.replicate 240 false).getD n false=false:=fun n=>by
    rw [List.getD_eq_getElem?_getD,List.getElem?_replicate]; split <;> rfl
  obtain ⟨S1,a1,a2,a3,a4⟩:=bl_L0 hk _ 0 (List.replicate 240 false) rfl (Nat.zero_le _) (List.length_replicate) (fun n _ h=>by rw [e0] at h; exact absurd h (by decide)) (fun j hj=>by omega)
  obtain ⟨S,b1,b2,b3,b4,b5⟩:=bl_L1 hk 240 S1 (by omega) a2 a3
  refine ⟨S,b2,fun v h0 h1=>⟨fun h=>?_,fun h=>?_⟩,?_⟩
  · have:=b3 v.toNat (by omega) h
    rwa [Int.toNat_of_nonneg h0] at this
  · clear h0 h1
    induction h with
    | init hv=>
      obtain ⟨j,hj,rfl⟩:=List.getElem_of_mem hv
      have:=b4 _ (a4 j hj)
      rwa [QZ 0 hj] at this
    | step _ he ih=>exact b5 _ he ih
  · have hz:Qz PP 33=some Z5:=Um
    have hmk:=mk81 (n:=240) (by decide) [Row.mix Z5]
    rw [F60_eq]
    simp only [hz,gG,List.nil_append,List.length_nil]
    have hmk2:makeSlice PP false 81 (.p (.int .i64 240)) (.p (.int .i64 240)) [Row.mix Z5]=some (.rsl 1 1 0 240,st2 (List.replicate 240 false)):=hmk
    rw [hmk2]
    exact a1.trans b1
end
end Go.D.StS
end
/- Equations of functions 58, 93, 59, 94, 20, 64, 24, 21, 19, 23, 15, 3, printed by gen.py. -/
section
set_option linter.unusedVariables false
set_option maxRecDepth 10000
namespace Go.D
open Go.Proofs
noncomputable section
variable (G:Qh) (lo:Nat) {σ:Qa} {r:DV×Qa}
open _root_.Go.D.Code (fstC sndC)
open _root_.Go.D.Ann (left right)
def c58_0:Code:=Qw Tryz.f58
def a58_0:Ann:=(pol 58).ann
def F58 (a b:DV) (σ:Qa):RS:=
 Qo G PP (pol 58) CC lo c58_0 a58_0 (a::b::zn 22 []) σ (finR PP Tryz.f58.results.toList)
theorem F58_eq (G:Qh) (lo:Nat) (a b:DV) (σ:Qa):F58 G lo a b σ =
 (boxV a).bind fun z2=>
 (boxV b).bind fun z3=>
 (fieldAddr PP 33 (DV.ptr (List.length σ) 0) 0).bind fun m=>
 (load PP 25 m ((σ++[Row.mix z2])++[Row.mix z3])).bind fun K=>
 (fieldAddr PP 33 (DV.ptr (List.length (σ++[Row.mix z2])) 0) 0).bind fun F=>
 (load PP 25 F ((σ++[Row.mix z2])++[Row.mix z3])).bind fun l=>
 (Qi CC (DV.fn 93 []) [K,l] ((σ++[Row.mix z2])++[Row.mix z3])).bind fun i=>
 Gp G i true (fieldAddr PP 33 (DV.ptr (List.length σ) 0) 1) ((σ++[Row.mix z2])++[Row.mix z3]) fun j σ1=>
 Gp G i true (load PP 22 j σ1) σ1 fun k σ2=>
 Gp G i true (fieldAddr PP 33 (DV.ptr (List.length (σ++[Row.mix z2])) 0) 1) σ2 fun q σ3=>
 Gp G i true (load PP 22 q σ3) σ3 fun w σ4=>
 Gp G i true (Qi CC (DV.fn 34 []) [k,w] σ4) σ4 fun z σ5=>
 (Qt i z (DV.p (PV.bool false))).bind fun U=>
 Gp G U true (fieldAddr PP 33 (DV.ptr (List.length σ) 0) 2) σ5 fun R σ6=>
 Gp G U true (load PP 22 R σ6) σ6 fun av σ7=>
 Gp G U true (fieldAddr PP 33 (DV.ptr (List.length (σ++[Row.mix z2])) 0) 2) σ7 fun L σ8=>
 Gp G U true (load PP 22 L σ8) σ8 fun t σ9=>
 Gp G U true (Qi CC (DV.fn 34 []) [av,t] σ9) σ9 fun o σ10=>
 (Qt U o (DV.p (PV.bool false))).bind fun u=>
 some (u,σ10):=by kernel_rfl
theorem F58_call {lo:Nat} {a b:DV} (h:F58 Qb lo a b σ=some r):CC lo 58 [a,b] σ=some r:=
 callL_run Tryz.func58 (by decide +kernel) rfl (by decide +kernel) h
def c93_0:Code:=Qw Tryz.f93
def a93_0:Ann:=(pol 93).ann
def a93_13:Ann:=right (left (right (right a93_0)))
def a93_14:Ann:=left a93_13
def c93_15:Code:=fstC (fstC (sndC (fstC (sndC (sndC c93_0)))))
def c93_31:Code:=sndC (sndC (sndC c93_0))
def a93_31:Ann:=right (right (right a93_0))
def f93_L0 (c d m:DV) (σ:Qa):RS:=
 Qo G PP (pol 93) CC lo (.loop c93_15) a93_14 (Z::Z::c::d::Z::m::zn 40 []) σ
 (Qk 0 a93_13 (seqC G PP (pol 93) CC lo c93_31 a93_31 (finR PP Tryz.f93.results.toList)))
def F93 (a b:DV) (σ:Qa):RS:=
 Qo G PP (pol 93) CC lo c93_0 a93_0 (a::b::zn 44 []) σ (finR PP Tryz.f93.results.toList)
theorem f93_L0_eq (G:Qh) (hG:Qq G) (lo:Nat) (c d m:DV) (σ:Qa):f93_L0 G lo c d m σ =
 (fieldAddr PP 25 c 2).bind fun af=>
 (load PP 23 af σ).bind fun ak=>
 (len PP 23 ak σ).bind fun E=>
 (binOp PP .lss 3 m E).bind fun H=>
 Qj H
 (
 (fieldAddr PP 25 c 2).bind fun aq=>
 (load PP 23 aq σ).bind fun aj=>
 (indexAddr PP 23 aj m).bind fun aa=>
 (load PP 69 aa σ).bind fun J=>
 (fieldAddr PP 25 d 2).bind fun C=>
 (load PP 23 C σ).bind fun x=>
 (indexAddr PP 23 x m).bind fun V=>
 (load PP 69 V σ).bind fun ac=>
 (binOp PP .neq 69 J ac).bind fun P=>
 Qj P
 (
 some ((DV.p (PV.bool false)),σ)
 )
 (
 (binOp PP .add 3 m I1).bind fun X=>
 f93_L0 G lo c d X σ
 )
 )
 (
 some ((DV.p (PV.bool true)),σ)
 ):=(Qm G hG).trans (by kernel_rfl)
theorem F93_eq (G:Qh) (lo:Nat) (a b:DV) (σ:Qa):F93 G lo a b σ =
 (boxV a).bind fun z2=>
 (boxV b).bind fun z3=>
 (fieldAddr PP 25 (DV.ptr (List.length σ) 0) 0).bind fun K=>
 (load PP 3 K ((σ++[Row.mix z2])++[Row.mix z3])).bind fun F=>
 (fieldAddr PP 25 (DV.ptr (List.length (σ++[Row.mix z2])) 0) 0).bind fun l=>
 (load PP 3 l ((σ++[Row.mix z2])++[Row.mix z3])).bind fun i=>
 (binOp PP .neq 3 F i).bind fun g=>
 Gp G g false (fieldAddr PP 25 (DV.ptr (List.length σ) 0) 1) ((σ++[Row.mix z2])++[Row.mix z3]) fun k σ1=>
 Gp G g false (load PP 22 k σ1) σ1 fun q σ2=>
 Gp G g false (fieldAddr PP 25 (DV.ptr (List.length (σ++[Row.mix z2])) 0) 1) σ2 fun w σ3=>
 Gp G g false (load PP 22 w σ3) σ3 fun z σ4=>
 Gp G g false (Qi CC (DV.fn 34 []) [q,z] σ4) σ4 fun U σ5=>
 Gp G g false (unOp .not U) σ5 fun O σ6=>
 (Qt g (DV.p (PV.bool true)) O).bind fun R=>
 Gp G R false (fieldAddr PP 25 (DV.ptr (List.length σ) 0) 2) σ6 fun L σ7=>
 Gp G R false (load PP 23 L σ7) σ7 fun t σ8=>
 Gp G R false (len PP 23 t σ8) σ8 fun o σ9=>
 Gp G R false (fieldAddr PP 25 (DV.ptr (List.length (σ++[Row.mix z2])) 0) 2) σ9 fun u σ10=>
 Gp G R false (load PP 23 u σ10) σ10 fun I σ11=>
 Gp G R false (len PP 23 I σ11) σ11 fun A σ12=>
 Gp G R false (binOp PP .neq 3 o A) σ12 fun ah σ13=>
 (Qt R (DV.p (PV.bool true)) ah).bind fun W=>
 Qj W
 (
 some ((DV.p (PV.bool false)),σ13)
 )
 (
 f93_L0 G lo (DV.ptr (List.length σ) 0) (DV.ptr (List.length (σ++[Row.mix z2])) 0) I0 σ13
 ):=by kernel_rfl
theorem F93_call {lo:Nat} {a b:DV} (h:F93 Qb lo a b σ=some r):CC lo 93 [a,b] σ=some r:=
 callL_run Tryz.func93 (by decide +kernel) rfl (by decide +kernel) h
def c59_0:Code:=Qw Tryz.f59
def a59_0:Ann:=(pol 59).ann
def F59 (a b:DV) (σ:Qa):RS:=
 Qo G PP (pol 59) CC lo c59_0 a59_0 (a::b::zn 7 []) σ (finR PP Tryz.f59.results.toList)
theorem F59_eq (G:Qh) (lo:Nat) (a b:DV) (σ:Qa):F59 G lo a b σ =
 (binOp PP .mul 3 a (DV.p (PV.int IntKind.i64 (8)))).bind fun K=>
 (binOp PP .add 3 K b).bind fun l=>
 some (l,σ):=by kernel_rfl
theorem F59_call {lo:Nat} {a b:DV} (h:F59 Qb lo a b σ=some r):CC lo 59 [a,b] σ=some r:=
 callL_run Tryz.func59 (by decide +kernel) rfl (by decide +kernel) h
def c94_0:Code:=Qw Tryz.f94
def a94_0:Ann:=(pol 94).ann
def a94_5:Ann:=right (left (right a94_0))
def a94_6:Ann:=left a94_5
def c94_7:Code:=fstC (fstC (sndC (fstC (sndC c94_0))))
def c94_23:Code:=sndC (sndC c94_0)
def a94_23:Ann:=right (right a94_0)
def f94_L0 (a d m:DV) (σ:Qa):RS:=
 Qo G PP (pol 94) CC lo (.loop c94_7) a94_6 (a::Z::Z::d::Z::m::zn 12 []) σ
 (Qk 0 a94_5 (seqC G PP (pol 94) CC lo c94_23 a94_23 (finR PP Tryz.f94.results.toList)))
def F94 (a b:DV) (σ:Qa):RS:=
 Qo G PP (pol 94) CC lo c94_0 a94_0 (a::b::zn 16 []) σ (finR PP Tryz.f94.results.toList)
theorem f94_L0_eq (G:Qh) (hG:Qq G) (lo:Nat) (a d m:DV) (σ:Qa):f94_L0 G lo a d m σ =
 (len PP 106 a σ).bind fun l=>
 (binOp PP .lss 3 m l).bind fun i=>
 Qj i
 (
 (indexAddr PP 106 a m).bind fun w=>
 (load PP 109 w σ).bind fun z=>
 (load PP 109 d σ).bind fun U=>
 (binOp PP .eql 109 z U).bind fun O=>
 Qj O
 (
 some ((DV.p (PV.bool true)),σ)
 )
 (
 (binOp PP .add 3 m I1).bind fun j=>
 f94_L0 G lo a d j σ
 )
 )
 (
 some ((DV.p (PV.bool false)),σ)
 ):=(Qm G hG).trans (by kernel_rfl)
theorem F94_eq (G:Qh) (lo:Nat) (a b:DV) (σ:Qa):F94 G lo a b σ =
 (boxV b).bind fun z3=>
 f94_L0 G lo a (DV.ptr (List.length σ) 0) I0 (σ++[Row.mix z3]):=by kernel_rfl
theorem F94_call {lo:Nat} {a b:DV} (h:F94 Qb lo a b σ=some r):CC lo 94 [a,b] σ=some r:=
 callL_run Tryz.func94 (by decide +kernel) rfl (by decide +kernel) h
def c20_0:Code:=Qw Tryz.f20
def a20_0:Ann:=(pol 20).ann
def a20_9:Ann:=right (left (right (right (right a20_0))))
def a20_10:Ann:=left a20_9
def c20_11:Code:=fstC (fstC (sndC (fstC (sndC (sndC (sndC c20_0))))))
def c20_21:Code:=sndC (sndC (sndC (sndC c20_0)))
def a20_21:Ann:=right (right (right (right a20_0)))
def a20_24:Ann:=right (left a20_21)
def a20_25:Ann:=left a20_24
def c20_26:Code:=fstC (fstC (sndC (fstC c20_21)))
def a20_33:Ann:=left (right (left a20_25))
def a20_36:Ann:=right (left a20_33)
def a20_37:Ann:=left a20_36
def c20_38:Code:=fstC (fstC (sndC (fstC (fstC (sndC c20_26)))))
def c20_48:Code:=sndC (sndC c20_26)
def a20_48:Ann:=right (right (left a20_25))
def c20_49:Code:=sndC c20_21
def a20_49:Ann:=right a20_21
def f20_L0 (c d f m K F:DV) (σ:Qa):RS:=
 Qo G PP (pol 20) CC lo (.loop c20_11) a20_10 (Z::Z::c::d::f::m::K::F::zn 74 []) σ
 (Qk 0 a20_9 (seqC G PP (pol 20) CC lo c20_21 a20_21 (finR PP Tryz.f20.results.toList)))
def f20_L1 (c d f m K l:DV) (σ:Qa):RS:=
 Qo G PP (pol 20) CC lo (.loop c20_26) a20_25 (Z::Z::c::d::f::m::K::Z::l::zn 73 []) σ
 (Qk 2 a20_24 (seqC G PP (pol 20) CC lo c20_49 a20_49 (finR PP Tryz.f20.results.toList)))
def f20_L2 (c d f m K l i:DV) (σ:Qa):RS:=
 Qo G PP (pol 20) CC lo (.loop c20_38) a20_37 (Z::Z::c::d::f::m::K::Z::l::i::zn 72 []) σ
 (Qk 4 a20_36 (Qk 3 a20_33 (seqC G PP (pol 20) CC lo c20_48 a20_48 (QY G PP (pol 20) CC lo c20_26 a20_25 (Qk 2 a20_24 (seqC G PP (pol 20) CC lo c20_49 a20_49 (finR PP Tryz.f20.results.toList)))))))
def F20 (a b:DV) (σ:Qa):RS:=
 Qo G PP (pol 20) CC lo c20_0 a20_0 (a::b::zn 80 []) σ (finR PP Tryz.f20.results.toList)
theorem f20_L0_eq (G:Qh) (hG:Qq G) (lo:Nat) (c d f m K F:DV) (σ:Qa):f20_L0 G lo c d f m K F σ =
 (fieldAddr PP 25 c 1).bind fun j=>
 (load PP 22 j σ).bind fun k=>
 (len PP 22 k σ).bind fun q=>
 (binOp PP .lss 3 F q).bind fun w=>
 Qj w
 (
 (fieldAddr PP 25 c 1).bind fun R=>
 (load PP 22 R σ).bind fun av=>
 (indexAddr PP 22 av F).bind fun t=>
 (load PP 3 t σ).bind fun o=>
 (fieldAddr PP 28 d 0).bind fun u=>
 (load PP 22 u σ).bind fun I=>
 (fieldAddr PP 25 c 1).bind fun A=>
 (load PP 22 A σ).bind fun ah=>
 (indexAddr PP 22 ah F).bind fun au=>
 (load PP 3 au σ).bind fun af=>
 (indexAddr PP 22 I af).bind fun ak=>
 (load PP 3 ak σ).bind fun E=>
 (Qi CC (DV.fn 59 []) [o,E] σ).bind fun H=>
 (buildSlice PP none 22 1 [(0,H)] σ).bind fun r33_1=>
 (append PP lo false 22 22 m r33_1.1 r33_1.2).bind fun r34_2=>
 (binOp PP .add 3 F I1).bind fun U=>
 f20_L0 G lo c d f r34_2.1 K U r34_2.2
 )
 (
 f20_L1 G lo c d f m K I0 σ
 ):=(Qm G hG).trans (by kernel_rfl)
theorem f20_L1_eq (G:Qh) (hG:Qq G) (lo:Nat) (c d f m K l:DV) (σ:Qa):f20_L1 G lo c d f m K l σ =
 (fieldAddr PP 25 c 2).bind fun aj=>
 (load PP 23 aj σ).bind fun ar=>
 (len PP 23 ar σ).bind fun aa=>
 (binOp PP .lss 3 l aa).bind fun J=>
 Qj J
 (
 f20_L2 G lo c d f m K l I0 σ
 )
 (
 (Qi CC (DV.fn 60 []) [m,K] σ).bind fun cq=>
 (store PP lo 33 f cq σ).bind fun σ5=>
 (Vt PP 33 f σ5).bind fun v0=>
 some (v0,σ5)
 ):=(Qm G hG).trans (by kernel_rfl)
theorem f20_L2_eq (G:Qh) (hG:Qq G) (lo:Nat) (c d f m K l i:DV) (σ:Qa):f20_L2 G lo c d f m K l i σ =
 (binOp PP .lss 3 i (DV.p (PV.int IntKind.i64 (8)))).bind fun V=>
 Qj V
 (
 (fieldAddr PP 25 c 2).bind fun Q=>
 (load PP 23 Q σ).bind fun M=>
 (indexAddr PP 23 M l).bind fun aw=>
 (fieldAddr PP 69 aw 0).bind fun bb=>
 (load PP 3 bb σ).bind fun Y=>
 (Qi CC (DV.fn 59 []) [Y,i] σ).bind fun T=>
 (fieldAddr PP 25 c 2).bind fun am=>
 (load PP 23 am σ).bind fun be=>
 (indexAddr PP 23 be l).bind fun ao=>
 (fieldAddr PP 69 ao 1).bind fun bc=>
 (load PP 3 bc σ).bind fun az=>
 (fieldAddr PP 28 d 1).bind fun bk=>
 (load PP 26 bk σ).bind fun bv=>
 (indexAddr PP 26 bv l).bind fun bi=>
 (load PP 22 bi σ).bind fun br=>
 (indexAddr PP 22 br i).bind fun b8=>
 (load PP 3 b8 σ).bind fun cb=>
 (Qi CC (DV.fn 59 []) [az,cb] σ).bind fun dd=>
 (fieldAddr PP 25 c 2).bind fun bt=>
 (load PP 23 bt σ).bind fun b9=>
 (indexAddr PP 23 b9 l).bind fun c9=>
 (fieldAddr PP 69 c9 2).bind fun N=>
 (load PP 3 N σ).bind fun cm=>
 (build PP 109 [(0,T),(1,dd),(2,cm)]).bind fun cd=>
 (buildSlice PP none 106 1 [(0,cd)] σ).bind fun r77_3=>
 (append PP lo false 106 106 K r77_3.1 r77_3.2).bind fun r78_4=>
 (binOp PP .add 3 i I1).bind fun P=>
 f20_L2 G lo c d f m r78_4.1 l P r78_4.2
 )
 (
 (binOp PP .add 3 l I1).bind fun x=>
 f20_L1 G lo c d f m K x σ
 ):=(Qm G hG).trans (by kernel_rfl)
theorem F20_eq (G:Qh) (lo:Nat) (a b:DV) (σ:Qa):F20 G lo a b σ =
 (boxV a).bind fun z2=>
 (boxV b).bind fun z3=>
 (Qz PP 33).bind fun z4=>
 f20_L0 G lo (DV.ptr (List.length σ) 0) (DV.ptr (List.length (σ++[Row.mix z2])) 0) (DV.ptr (List.length ((σ++[Row.mix z2])++[Row.mix z3])) 0) (DV.p PV.nilsl) (DV.p PV.nilsl) I0 (((σ++[Row.mix z2])++[Row.mix z3])++[Row.mix z4]):=by kernel_rfl
theorem F20_call {lo:Nat} {a b:DV} (h:F20 Qb lo a b σ=some r):CC lo 20 [a,b] σ=some r:=
 callL_run Tryz.func20 (by decide +kernel) rfl (by decide +kernel) h
def c64_0:Code:=Qw Tryz.f64
def a64_0:Ann:=(pol 64).ann
def a64_5:Ann:=right (left (right a64_0))
def a64_6:Ann:=left a64_5
def c64_7:Code:=fstC (fstC (sndC (fstC (sndC c64_0))))
def c64_23:Code:=sndC (sndC c64_0)
def a64_23:Ann:=right (right a64_0)
def f64_L0 (b c d F:DV) (σ:Qa):RS:=
 Qo G PP (pol 64) CC lo (.loop c64_7) a64_6 (Z::b::c::d::Z::Z::Z::F::zn 24 []) σ
 (Qk 0 a64_5 (seqC G PP (pol 64) CC lo c64_23 a64_23 (finR PP Tryz.f64.results.toList)))
def F64 (a b c:DV) (σ:Qa):RS:=
 Qo G PP (pol 64) CC lo c64_0 a64_0 (a::b::c::zn 29 []) σ (finR PP Tryz.f64.results.toList)
theorem f64_L0_eq (G:Qh) (hG:Qq G) (lo:Nat) (b c d F:DV) (σ:Qa):f64_L0 G lo b c d F σ =
 (fieldAddr PP 33 d 1).bind fun i=>
 (load PP 22 i σ).bind fun g=>
 (len PP 22 g σ).bind fun j=>
 (binOp PP .lss 3 F j).bind fun k=>
 Qj k
 (
 (fieldAddr PP 33 d 1).bind fun z=>
 (load PP 22 z σ).bind fun U=>
 (indexAddr PP 22 U F).bind fun R=>
 (load PP 3 R σ).bind fun av=>
 (binOp PP .eql 3 av b).bind fun t=>
 Gp G t true (fieldAddr PP 33 d 2) σ fun u σ1=>
 Gp G t true (load PP 22 u σ1) σ1 fun I σ2=>
 G _ t true (some (F,σ2)) σ2 fun A σ3=>
 Gp G t true (indexAddr PP 22 I A) σ3 fun ah σ4=>
 Gp G t true (load PP 3 ah σ4) σ4 fun W σ5=>
 G _ t true (some (c,σ5)) σ5 fun au σ6=>
 Gp G t true (binOp PP .eql 3 W au) σ6 fun af σ7=>
 (Qt t af (DV.p (PV.bool false))).bind fun ak=>
 Qj ak
 (
 some (F,σ7)
 )
 (
 (binOp PP .add 3 F I1).bind fun w=>
 f64_L0 G lo b c d w σ7
 )
 )
 (
 some ((DV.p (PV.int IntKind.i64 (-1))),σ)
 ):=(Qm G hG).trans (by kernel_rfl)
theorem F64_eq (G:Qh) (lo:Nat) (a b c:DV) (σ:Qa):F64 G lo a b c σ =
 (boxV a).bind fun z3=>
 f64_L0 G lo b c (DV.ptr (List.length σ) 0) I0 (σ++[Row.mix z3]):=by kernel_rfl
theorem F64_call {lo:Nat} {a b c:DV} (h:F64 Qb lo a b c σ=some r):CC lo 64 [a,b,c] σ=some r:=
 callL_run Tryz.func64 (by decide +kernel) rfl (by decide +kernel) h
def c24_0:Code:=Qw Tryz.f24
def a24_0:Ann:=(pol 24).ann
def a24_11:Ann:=right (left (right (right (right (right a24_0)))))
def a24_12:Ann:=left a24_11
def c24_13:Code:=fstC (fstC (sndC (fstC (sndC (sndC (sndC (sndC c24_0)))))))
def c24_25:Code:=sndC (sndC (sndC (sndC (sndC c24_0))))
def a24_25:Ann:=right (right (right (right (right a24_0))))
def f24_L0 (c d f F l i g:DV) (σ:Qa):RS:=
 Qo G PP (pol 24) CC lo (.loop c24_13) a24_12 (Z::Z::c::d::f::Z::Z::F::l::i::g::zn 52 []) σ
 (Qk 0 a24_11 (seqC G PP (pol 24) CC lo c24_25 a24_25 (finR PP Tryz.f24.results.toList)))
def F24 (a b c:DV) (σ:Qa):RS:=
 Qo G PP (pol 24) CC lo c24_0 a24_0 (a::b::c::zn 60 []) σ (finR PP Tryz.f24.results.toList)
theorem f24_L0_eq (G:Qh) (hG:Qq G) (lo:Nat) (c d f F l i g:DV) (σ:Qa):f24_L0 G lo c d f F l i g σ =
 (len PP 22 c σ).bind fun ak=>
 (binOp PP .lss 3 g ak).bind fun E=>
 Qj E
 (
 (fieldAddr PP 28 f 1).bind fun X=>
 (load PP 26 X σ).bind fun aq=>
 (load PP 25 d σ).bind fun aj=>
 (binOp PP .sub 3 g I1).bind fun J=>
 (indexAddr PP 22 c J).bind fun C=>
 (load PP 3 C σ).bind fun x=>
 (indexAddr PP 22 c g).bind fun ac=>
 (load PP 3 ac σ).bind fun P=>
 (Qi CC (DV.fn 63 []) [aj,x,P] σ).bind fun y=>
 (indexAddr PP 26 aq y).bind fun Q=>
 (load PP 22 Q σ).bind fun M=>
 (indexAddr PP 22 M l).bind fun aw=>
 (load PP 3 aw σ).bind fun bb=>
 (load PP 33 F σ).bind fun S=>
 (indexAddr PP 22 c g).bind fun be=>
 (load PP 3 be σ).bind fun bp=>
 (Qi CC (DV.fn 64 []) [S,bp,bb] σ).bind fun bc=>
 (buildSlice PP none 22 1 [(0,bc)] σ).bind fun r60_3=>
 (append PP lo false 22 22 i r60_3.1 r60_3.2).bind fun r61_4=>
 (binOp PP .add 3 g I1).bind fun ae=>
 f24_L0 G lo c d f F bb r61_4.1 ae r61_4.2
 )
 (
 some (i,σ)
 ):=(Qm G hG).trans (by kernel_rfl)
theorem F24_eq (G:Qh) (lo:Nat) (a b c:DV) (σ:Qa):F24 G lo a b c σ =
 (boxV a).bind fun z3=>
 (boxV b).bind fun z4=>
 (load PP 25 (DV.ptr (List.length σ) 0) ((σ++[Row.mix z3])++[Row.mix z4])).bind fun j=>
 (load PP 28 (DV.ptr (List.length (σ++[Row.mix z3])) 0) ((σ++[Row.mix z3])++[Row.mix z4])).bind fun k=>
 (Qi CC (DV.fn 20 []) [j,k] ((σ++[Row.mix z3])++[Row.mix z4])).bind fun q=>
 (Qz PP 33).bind fun z7=>
 (store PP lo 33 (DV.ptr (List.length ((σ++[Row.mix z3])++[Row.mix z4])) 0) q (((σ++[Row.mix z3])++[Row.mix z4])++[Row.mix z7])).bind fun σ1=>
 (fieldAddr PP 28 (DV.ptr (List.length (σ++[Row.mix z3])) 0) 0).bind fun w=>
 (load PP 22 w σ1).bind fun z=>
 (indexAddr PP 22 c I0).bind fun O=>
 (load PP 3 O σ1).bind fun R=>
 (indexAddr PP 22 z R).bind fun av=>
 (load PP 3 av σ1).bind fun L=>
 (load PP 33 (DV.ptr (List.length ((σ++[Row.mix z3])++[Row.mix z4])) 0) σ1).bind fun t=>
 (indexAddr PP 22 c I0).bind fun u=>
 (load PP 3 u σ1).bind fun I=>
 (Qi CC (DV.fn 64 []) [t,I,L] σ1).bind fun ah=>
 (buildSlice PP none 22 1 [(0,ah)] σ1).bind fun r27_2=>
 f24_L0 G lo c (DV.ptr (List.length σ) 0) (DV.ptr (List.length (σ++[Row.mix z3])) 0) (DV.ptr (List.length ((σ++[Row.mix z3])++[Row.mix z4])) 0) L r27_2.1 I1 r27_2.2:=by kernel_rfl
theorem F24_call {lo:Nat} {a b c:DV} (h:F24 Qb lo a b c σ=some r):CC lo 24 [a,b,c] σ=some r:=
 callL_run Tryz.func24 (by decide +kernel) rfl (by decide +kernel) h
def c21_0:Code:=Qw Tryz.f21
def a21_0:Ann:=(pol 21).ann
def F21 (a:DV) (σ:Qa):RS:=
 Qo G PP (pol 21) CC lo c21_0 a21_0 (a::zn 13 []) σ (finR PP Tryz.f21.results.toList)
theorem F21_eq (G:Qh) (lo:Nat) (a:DV) (σ:Qa):F21 G lo a σ =
 (boxV a).bind fun z1=>
 (fieldAddr PP 33 (DV.ptr (List.length σ) 0) 0).bind fun d=>
 (fieldAddr PP 25 d 0).bind fun f=>
 (load PP 3 f (σ++[Row.mix z1])).bind fun m=>
 (binOp PP .gtr 3 m (DV.p (PV.int IntKind.i64 (400)))).bind fun K=>
 Gp G K false (fieldAddr PP 33 (DV.ptr (List.length σ) 0) 0) (σ++[Row.mix z1]) fun l σ1=>
 Gp G K false (fieldAddr PP 25 l 2) σ1 fun i σ2=>
 Gp G K false (load PP 23 i σ2) σ2 fun g σ3=>
 Gp G K false (len PP 23 g σ3) σ3 fun j σ4=>
 Gp G K false (binOp PP .gtr 3 j (DV.p (PV.int IntKind.i64 (2000)))) σ4 fun k σ5=>
 (Qt K (DV.p (PV.bool true)) k).bind fun q=>
 some (q,σ5):=by kernel_rfl
theorem F21_call {lo:Nat} {a:DV} (h:F21 Qb lo a σ=some r):CC lo 21 [a] σ=some r:=
 callL_run Tryz.func21 (by decide +kernel) rfl (by decide +kernel) h
def c19_0:Code:=Qw Tryz.f19
def a19_0:Ann:=(pol 19).ann
def c19_8:Code:=sndC (sndC c19_0)
def a19_8:Ann:=right (right a19_0)
def f19_J0 (a b c d m K F l i g j k:DV) (σ:Qa):RS:=
 (seqC G PP (pol 19) CC lo c19_8 a19_8 (finR PP Tryz.f19.results.toList)) .normal (a::b::c::d::Z::m::K::F::l::i::g::j::k::zn 21 []) σ
def F19 (a b c:DV) (σ:Qa):RS:=
 Qo G PP (pol 19) CC lo c19_0 a19_0 (a::b::c::zn 31 []) σ (finR PP Tryz.f19.results.toList)
theorem f19_J0_eq (G:Qh) (lo:Nat) (a b c d m K F l i g j k:DV) (σ:Qa):f19_J0 G lo a b c d m K F l i g j k σ =
 (binOp PP .neq 3 b I0).bind fun w=>
 Qj w
 (
 (fieldAddr PP 46 d 1).bind fun z=>
 (load PP 34 z σ).bind fun U=>
 (binOp PP .eql 3 U b).bind fun R=>
 Gp G R true (fieldAddr PP 46 d 0) σ fun L σ3=>
 Gp G R true (load PP 33 L σ3) σ3 fun t σ4=>
 Gp G R true (build PP 33 []) σ4 fun o σ5=>
 Gp G R true (Qi CC (DV.fn 58 []) [t,o] σ5) σ5 fun u σ6=>
 (Qt R u (DV.p (PV.bool false))).bind fun I=>
 some (I,σ6)
 )
 (
 (fieldAddr PP 46 d 1).bind fun A=>
 (load PP 34 A σ).bind fun ah=>
 (binOp PP .eql 34 ah I0).bind fun W=>
 Gp G W true (fieldAddr PP 46 d 0) σ fun af σ7=>
 Gp G W true (load PP 33 af σ7) σ7 fun ak σ8=>
 Gp G W true (load PP 33 m σ8) σ8 fun E σ9=>
 Gp G W true (Qi CC (DV.fn 58 []) [ak,E] σ9) σ9 fun H σ10=>
 (Qt W H (DV.p (PV.bool false))).bind fun ae=>
 some (ae,σ10)
 ):=by kernel_rfl
theorem F19_eqN (G:Qh) (lo:Nat) (a b c:DV) (σ:Qa):F19 G lo a b c σ =
 (boxV a).bind fun z3=>
 (boxV c).bind fun z5=>
 (binOp PP .eql 3 b I0).bind fun l=>
 Gp G l true (load PP 33 (DV.ptr (List.length (σ++[Row.mix z3])) 0) ((σ++[Row.mix z3])++[Row.mix z5])) ((σ++[Row.mix z3])++[Row.mix z5]) fun g σ1=>
 Gp G l true (Qi CC (DV.fn 21 []) [g] σ1) σ1 fun j σ2=>
 (Qt l j (DV.p (PV.bool false))).bind fun k=>
 Qj k
 (
 (binOp PP .neq 3 (DV.p (PV.int IntKind.i64 (2))) I0).bind fun w=>
 Qj w
 (
 (fieldAddr PP 46 (DV.ptr (List.length σ) 0) 1).bind fun z=>
 (load PP 34 z σ2).bind fun U=>
 (binOp PP .eql 3 U (DV.p (PV.int IntKind.i64 (2)))).bind fun R=>
 Gp G R true (fieldAddr PP 46 (DV.ptr (List.length σ) 0) 0) σ2 fun L σ3=>
 Gp G R true (load PP 33 L σ3) σ3 fun t σ4=>
 Gp G R true (build PP 33 []) σ4 fun o σ5=>
 Gp G R true (Qi CC (DV.fn 58 []) [t,o] σ5) σ5 fun u σ6=>
 (Qt R u (DV.p (PV.bool false))).bind fun I=>
 some (I,σ6)
 )
 (
 (fieldAddr PP 46 (DV.ptr (List.length σ) 0) 1).bind fun A=>
 (load PP 34 A σ2).bind fun ah=>
 (binOp PP .eql 34 ah I0).bind fun W=>
 Gp G W true (fieldAddr PP 46 (DV.ptr (List.length σ) 0) 0) σ2 fun af σ7=>
 Gp G W true (load PP 33 af σ7) σ7 fun ak σ8=>
 Gp G W true (load PP 33 (DV.ptr (List.length (σ++[Row.mix z3])) 0) σ8) σ8 fun E σ9=>
 Gp G W true (Qi CC (DV.fn 58 []) [ak,E] σ9) σ9 fun H σ10=>
 (Qt W H (DV.p (PV.bool false))).bind fun ae=>
 some (ae,σ10)
 )
 )
 (
 (binOp PP .neq 3 b I0).bind fun w=>
 Qj w
 (
 (fieldAddr PP 46 (DV.ptr (List.length σ) 0) 1).bind fun z=>
 (load PP 34 z σ2).bind fun U=>
 (binOp PP .eql 3 U b).bind fun R=>
 Gp G R true (fieldAddr PP 46 (DV.ptr (List.length σ) 0) 0) σ2 fun L σ11=>
 Gp G R true (load PP 33 L σ11) σ11 fun t σ12=>
 Gp G R true (build PP 33 []) σ12 fun o σ13=>
 Gp G R true (Qi CC (DV.fn 58 []) [t,o] σ13) σ13 fun u σ14=>
 (Qt R u (DV.p (PV.bool false))).bind fun I=>
 some (I,σ14)
 )
 (
 (fieldAddr PP 46 (DV.ptr (List.length σ) 0) 1).bind fun A=>
 (load PP 34 A σ2).bind fun ah=>
 (binOp PP .eql 34 ah I0).bind fun W=>
 Gp G W true (fieldAddr PP 46 (DV.ptr (List.length σ) 0) 0) σ2 fun af σ15=>
 Gp G W true (load PP 33 af σ15) σ15 fun ak σ16=>
 Gp G W true (load PP 33 (DV.ptr (List.length (σ++[Row.mix z3])) 0) σ16) σ16 fun E σ17=>
 Gp G W true (Qi CC (DV.fn 58 []) [ak,E] σ17) σ17 fun H σ18=>
 (Qt W H (DV.p (PV.bool false))).bind fun ae=>
 some (ae,σ18)
 )
 ):=by kernel_rfl
theorem F19_eq (G:Qh) (lo:Nat) (a b c:DV) (σ:Qa):F19 G lo a b c σ =
 (boxV a).bind fun z3=>
 (boxV c).bind fun z5=>
 (binOp PP .eql 3 b I0).bind fun l=>
 Gp G l true (load PP 33 (DV.ptr (List.length (σ++[Row.mix z3])) 0) ((σ++[Row.mix z3])++[Row.mix z5])) ((σ++[Row.mix z3])++[Row.mix z5]) fun g σ1=>
 Gp G l true (Qi CC (DV.fn 21 []) [g] σ1) σ1 fun j σ2=>
 (Qt l j (DV.p (PV.bool false))).bind fun k=>
 Qj k
 (
 f19_J0 G lo a (DV.p (PV.int IntKind.i64 (2))) c (DV.ptr (List.length σ) 0) (DV.ptr (List.length (σ++[Row.mix z3])) 0) (DV.p (PV.bool false)) b l l g j k σ2
 )
 (
 f19_J0 G lo a b c (DV.ptr (List.length σ) 0) (DV.ptr (List.length (σ++[Row.mix z3])) 0) (DV.p (PV.bool false)) b l l g j k σ2
 ):=(F19_eqN G lo a b c σ).trans (by simp only [f19_J0_eq])
theorem F19_call {lo:Nat} {a b c:DV} (h:F19 Qb lo a b c σ=some r):CC lo 19 [a,b,c] σ=some r:=
 callL_run Tryz.func19 (by decide +kernel) rfl (by decide +kernel) h
def c23_0:Code:=Qw Tryz.f23
def a23_0:Ann:=(pol 23).ann
def F23 (a b c d:DV) (σ:Qa):RS:=
 Qo G PP (pol 23) CC lo c23_0 a23_0 (a::b::c::d::zn 29 []) σ (finR PP Tryz.f23.results.toList)
theorem F23_eq (G:Qh) (lo:Nat) (a b c d:DV) (σ:Qa):F23 G lo a b c d σ =
 (boxV a).bind fun z4=>
 (Qi CC (DV.fn 34 []) [c,d] (σ++[Row.mix z4])).bind fun q=>
 (unOp .not q).bind fun w=>
 Qj w
 (
 some ((DV.p (PV.bool false)),(σ++[Row.mix z4]))
 )
 (
 (len PP 22 c (σ++[Row.mix z4])).bind fun U=>
 (binOp PP .gtr 3 U (DV.p (PV.int IntKind.i64 (60)))).bind fun O=>
 Qj O
 (
 some ((DV.p (PV.bool true)),(σ++[Row.mix z4]))
 )
 (
 (load PP 33 (DV.ptr (List.length σ) 0) (σ++[Row.mix z4])).bind fun av=>
 (Qi CC (DV.fn 32 []) [av] (σ++[Row.mix z4])).bind fun L=>
 (Qi CC (DV.fn 16 []) [c] (σ++[Row.mix z4])).bind fun o=>
 (Qi CC (DV.fn 31 []) [L,o] (σ++[Row.mix z4])).bind fun u=>
 (Ql u 0).bind fun I=>
 (Ql u 1).bind fun A=>
 (binOp PP .eql 34 A I0).bind fun W=>
 G _ W true (some (I,(σ++[Row.mix z4]))) (σ++[Row.mix z4]) fun af σ1=>
 G _ W true (some (b,σ1)) σ1 fun ak σ2=>
 Gp G W true (Qi CC (DV.fn 34 []) [af,ak] σ2) σ2 fun E σ3=>
 (Qt W E (DV.p (PV.bool false))).bind fun H=>
 some (H,σ3)
 )
 ):=by kernel_rfl
theorem F23_call {lo:Nat} {a b c d:DV} (h:F23 Qb lo a b c d σ=some r):CC lo 23 [a,b,c,d] σ=some r:=
 callL_run Tryz.func23 (by decide +kernel) rfl (by decide +kernel) h
def c15_0:Code:=Qw Tryz.f15
def a15_0:Ann:=(pol 15).ann
def a15_31:Ann:=right (left (right (right (right (right (right (right a15_0)))))))
def a15_32:Ann:=left a15_31
def c15_33:Code:=fstC (fstC (sndC (fstC (sndC (sndC (sndC (sndC (sndC (sndC c15_0)))))))))
def c15_47:Code:=sndC (sndC (sndC (sndC (sndC (sndC (sndC c15_0))))))
def a15_47:Ann:=right (right (right (right (right (right (right a15_0))))))
def f15_L0 (d f i j k S T am:DV) (σ:Qa):RS:=
 Qo G PP (pol 15) CC lo (.loop c15_33) a15_32 (Z::Z::Z::d::f::Z::Z::Z::Z::i::Z::j::k::zn 40 (S::T::am::zn 27 [])) σ
 (Qk 0 a15_31 (seqC G PP (pol 15) CC lo c15_47 a15_47 (finR PP Tryz.f15.results.toList)))
def F15 (a b c:DV) (σ:Qa):RS:=
 Qo G PP (pol 15) CC lo c15_0 a15_0 (a::b::c::zn 80 []) σ (finR PP Tryz.f15.results.toList)
theorem f15_L0_eq (G:Qh) (hG:Qq G) (lo:Nat) (d f i j k S T am:DV) (σ:Qa):f15_L0 G lo d f i j k S T am σ =
 (binOp PP .lss 3 am T).bind fun be=>
 Qj be
 (
 (indexAddr PP 22 S am).bind fun bp=>
 (load PP 3 bp σ).bind fun ao=>
 (fieldAddr PP 28 f 1).bind fun az=>
 (load PP 26 az σ).bind fun bk=>
 (load PP 25 d σ).bind fun bv=>
 (fieldAddr PP 102 j 0).bind fun bj=>
 (load PP 3 bj σ).bind fun bi=>
 (Qi CC (DV.fn 55 []) [bv,bi,ao] σ).bind fun bf=>
 (indexAddr PP 26 bk bf).bind fun b8=>
 (load PP 22 b8 σ).bind fun cb=>
 (fieldAddr PP 102 j 1).bind fun dd=>
 (load PP 3 dd σ).bind fun bt=>
 (indexAddr PP 22 cb bt).bind fun b9=>
 (load PP 3 b9 σ).bind fun cv=>
 (build PP 102 [(0,ao),(1,cv)]).bind fun c9=>
 (store PP lo 102 j c9 σ).bind fun σ6=>
 (fieldAddr PP 95 i 1).bind fun cm=>
 (load PP 93 cm σ6).bind fun cd=>
 (load PP 102 j σ6).bind fun bm=>
 (lookup PP 93 cd bm false σ6).bind fun c8=>
 (buildSlice PP none 22 1 [(0,c8)] σ6).bind fun r79_7=>
 (append PP lo false 22 22 k r79_7.1 r79_7.2).bind fun r80_8=>
 (binOp PP .add 3 am I1).bind fun cq=>
 f15_L0 G lo d f i j r80_8.1 S T cq r80_8.2
 )
 (
 some ((DV.tuple [k,I0]),σ)
 ):=(Qm G hG).trans (by kernel_rfl)
theorem F15_eq (G:Qh) (lo:Nat) (a b c:DV) (σ:Qa):F15 G lo a b c σ =
 (boxV a).bind fun z3=>
 (boxV b).bind fun z4=>
 (load PP 25 (DV.ptr (List.length σ) 0) ((σ++[Row.mix z3])++[Row.mix z4])).bind fun z=>
 (load PP 28 (DV.ptr (List.length (σ++[Row.mix z3])) 0) ((σ++[Row.mix z3])++[Row.mix z4])).bind fun U=>
 (Qi CC (DV.fn 50 []) [z,U] ((σ++[Row.mix z3])++[Row.mix z4])).bind fun O=>
 (binOp PP .neq 34 O I0).bind fun av=>
 Qj av
 (
 some ((DV.tuple [(DV.p PV.nilsl),O]),((σ++[Row.mix z3])++[Row.mix z4]))
 )
 (
 (load PP 25 (DV.ptr (List.length σ) 0) ((σ++[Row.mix z3])++[Row.mix z4])).bind fun o=>
 (load PP 28 (DV.ptr (List.length (σ++[Row.mix z3])) 0) ((σ++[Row.mix z3])++[Row.mix z4])).bind fun u=>
 (Qg CC lo (DV.fn 51 []) [o,u] ((σ++[Row.mix z3])++[Row.mix z4])).bind fun r24_1=>
 (Ql r24_1.1 0).bind fun A=>
 (Ql r24_1.1 1).bind fun ah=>
 (Qz PP 95).bind fun z9=>
 (store PP lo 95 (DV.ptr (List.length r24_1.2) 0) A (r24_1.2++[Row.mix z9])).bind fun σ2=>
 (load PP 25 (DV.ptr (List.length σ) 0) σ2).bind fun au=>
 (Qi CC (DV.fn 54 []) [au,c] σ2).bind fun ak=>
 (buildSlice PP none 143 2 [(0,ah),(1,ak)] σ2).bind fun r31_3=>
 (Qi CC (DV.fn 53 []) [r31_3.1] r31_3.2).bind fun H=>
 (binOp PP .neq 34 H I0).bind fun X=>
 Qj X
 (
 some ((DV.tuple [(DV.p PV.nilsl),H]),r31_3.2)
 )
 (
 (indexAddr PP 22 c I0).bind fun ar=>
 (load PP 3 ar r31_3.2).bind fun aa=>
 (fieldAddr PP 28 (DV.ptr (List.length (σ++[Row.mix z3])) 0) 0).bind fun J=>
 (load PP 22 J r31_3.2).bind fun C=>
 (indexAddr PP 22 c I0).bind fun B=>
 (load PP 3 B r31_3.2).bind fun V=>
 (indexAddr PP 22 C V).bind fun ac=>
 (load PP 3 ac r31_3.2).bind fun P=>
 (build PP 102 [(0,aa),(1,P)]).bind fun y=>
 (Qz PP 102).bind fun z11=>
 (store PP lo 102 (DV.ptr (List.length r31_3.2) 0) y (r31_3.2++[Row.mix z11])).bind fun σ4=>
 (fieldAddr PP 95 (DV.ptr (List.length r24_1.2) 0) 1).bind fun Q=>
 (load PP 93 Q σ4).bind fun M=>
 (load PP 102 (DV.ptr (List.length r31_3.2) 0) σ4).bind fun ba=>
 (lookup PP 93 M ba false σ4).bind fun aw=>
 (buildSlice PP none 22 1 [(0,aw)] σ4).bind fun r51_5=>
 (ZY PP 22 c (some I1) none none).bind fun S=>
 (len PP 22 S r51_5.2).bind fun T=>
 f15_L0 G lo (DV.ptr (List.length σ) 0) (DV.ptr (List.length (σ++[Row.mix z3])) 0) (DV.ptr (List.length r24_1.2) 0) (DV.ptr (List.length r31_3.2) 0) r51_5.1 S T I0 r51_5.2
 )
 ):=by kernel_rfl
theorem F15_call {lo:Nat} {a b c:DV} (h:F15 Qb lo a b c σ=some r):CC lo 15 [a,b,c] σ=some r:=
 callL_run Tryz.func15 (by decide +kernel) rfl (by decide +kernel) h
def c3_0:Code:=Qw Tryz.f3
def a3_0:Ann:=(pol 3).ann
def c3_30:Code:=sndC (sndC (sndC (sndC (sndC (sndC (sndC c3_0))))))
def a3_30:Ann:=right (right (right (right (right (right (right a3_0))))))
def f3_J0 (a b c d f K F l i g j w z U O R av L t o u I A ah W au af ak E H ae X aq aj ar aa J C x B V ac P y Q M ba aw bb Y S T am be bp ao bc az:DV) (σ:Qa):RS:=
 (seqC G PP (pol 3) CC lo c3_30 a3_30 (finR PP Tryz.f3.results.toList)) .normal (a::b::c::d::f::Z::K::F::l::i::g::j::Z::Z::w::z::U::O::R::av::L::t::o::u::I::A::ah::W::au::af::ak::E::H::ae::X::aq::aj::ar::aa::J::C::x::B::V::ac::P::y::Q::M::ba::aw::bb::Y::S::T::am::be::bp::ao::bc::az::zn 66 []) σ
def F3 (a b c:DV) (σ:Qa):RS:=
 Qo G PP (pol 3) CC lo c3_0 a3_0 (a::b::c::zn 124 []) σ (finR PP Tryz.f3.results.toList)
theorem f3_J0_eq (G:Qh) (lo:Nat) (a b c d f K F l i g j w z U O R av L t o u I A ah W au af ak E H ae X aq aj ar aa J C x B V ac P y Q M ba aw bb Y S T am be bp ao bc az:DV) (σ:Qa):f3_J0 G lo a b c d f K F l i g j w z U O R av L t o u I A ah W au af ak E H ae X aq aj ar aa J C x B V ac P y Q M ba aw bb Y S T am be bp ao bc az σ =
 (binOp PP .neq 3 j I0).bind fun bv=>
 Qj bv
 (
 (load PP 33 F σ).bind fun bj=>
 (build PP 46 [(0,bj),(1,l)]).bind fun br=>
 (build PP 33 []).bind fun b8=>
 (Qi CC (DV.fn 19 []) [br,j,b8] σ).bind fun cb=>
 G _ cb true (some (g,σ)) σ fun bt σ13=>
 G _ cb true (some (j,σ13)) σ13 fun b9 σ14=>
 Gp G cb true (binOp PP .eql 3 bt b9) σ14 fun cv σ15=>
 (Qt cb cv (DV.p (PV.bool false))).bind fun c9=>
 G _ c9 true (some (i,σ15)) σ15 fun cm σ16=>
 Gp G c9 true (len PP 22 cm σ16) σ16 fun cd σ17=>
 Gp G c9 true (binOp PP .eql 3 cd I0) σ17 fun bm σ18=>
 (Qt c9 bm (DV.p (PV.bool false))).bind fun c8=>
 some (c8,σ18)
 )
 (
 (load PP 25 d σ).bind fun bz=>
 (load PP 28 f σ).bind fun ca=>
 (Qi CC (DV.fn 20 []) [bz,ca] σ).bind fun cq=>
 (Qz PP 33).bind fun z12=>
 (store PP lo 33 (DV.ptr (List.length σ) 0) cq (σ++[Row.mix z12])).bind fun σ19=>
 (load PP 33 F σ19).bind fun n=>
 (build PP 46 [(0,n),(1,l)]).bind fun bg=>
 (load PP 33 (DV.ptr (List.length σ) 0) σ19).bind fun bq=>
 (Qi CC (DV.fn 19 []) [bg,I0,bq] σ19).bind fun bl=>
 (unOp .not bl).bind fun bn=>
 Gp G bn false (load PP 33 (DV.ptr (List.length σ) 0) σ19) σ19 fun ch σ20=>
 Gp G bn false (Qi CC (DV.fn 21 []) [ch] σ20) σ20 fun cn σ21=>
 (Qt bn (DV.p (PV.bool true)) cn).bind fun cu=>
 Qj cu
 (
 (load PP 33 (DV.ptr (List.length σ) 0) σ21).bind fun cg=>
 (Qi CC (DV.fn 21 []) [cg] σ21).bind fun c7=>
 G _ c7 true (some (l,σ21)) σ21 fun cj σ22=>
 Gp G c7 true (binOp PP .eql 34 cj (DV.p (PV.int IntKind.i64 (2)))) σ22 fun cc σ23=>
 (Qt c7 cc (DV.p (PV.bool false))).bind fun bu=>
 G _ bu true (some (g,σ23)) σ23 fun db σ24=>
 Gp G bu true (binOp PP .eql 34 db (DV.p (PV.int IntKind.i64 (2)))) σ24 fun bh σ25=>
 (Qt bu bh (DV.p (PV.bool false))).bind fun df=>
 some (df,σ25)
 )
 (
 (load PP 25 d σ21).bind fun ee=>
 (Qi CC (DV.fn 22 []) [ee,c] σ21).bind fun dq=>
 (binOp PP .neq 3 dq I0).bind fun ef=>
 Qj ef
 (
 (binOp PP .eql 3 g dq).bind fun di=>
 G _ di true (some (i,σ21)) σ21 fun dr σ26=>
 Gp G di true (len PP 22 dr σ26) σ26 fun ai σ27=>
 Gp G di true (binOp PP .eql 3 ai I0) σ27 fun bw σ28=>
 (Qt di bw (DV.p (PV.bool false))).bind fun eg=>
 some (eg,σ28)
 )
 (
 (binOp PP .eql 34 g I0).bind fun cp=>
 Gp G cp true (load PP 33 F σ21) σ21 fun eh σ29=>
 G _ cp true (some (c,σ29)) σ29 fun dw σ30=>
 G _ cp true (some (i,σ30)) σ30 fun ce σ31=>
 Gp G cp true (load PP 25 d σ31) σ31 fun ei σ32=>
 Gp G cp true (load PP 28 f σ32) σ32 fun ck σ33=>
 G _ cp true (some (c,σ33)) σ33 fun dl σ34=>
 Gp G cp true (Qi CC (DV.fn 24 []) [ei,ck,dl] σ34) σ34 fun en σ35=>
 Gp G cp true (Qi CC (DV.fn 23 []) [eh,dw,ce,en] σ35) σ35 fun co σ36=>
 (Qt cp co (DV.p (PV.bool false))).bind fun du=>
 some (du,σ36)
 )
 )
 ):=by kernel_rfl
theorem F3_eqN (G:Qh) (lo:Nat) (a b c:DV) (σ:Qa):F3 G lo a b c σ =
 (boxV a).bind fun z3=>
 (boxV b).bind fun z4=>
 (Qi CC (DV.fn 9 []) [] ((σ++[Row.mix z3])++[Row.mix z4])).bind fun w=>
 (unOp .not w).bind fun z=>
 Qj z
 (
 some ((DV.p (PV.bool false)),((σ++[Row.mix z3])++[Row.mix z4]))
 )
 (
 (load PP 25 (DV.ptr (List.length σ) 0) ((σ++[Row.mix z3])++[Row.mix z4])).bind fun U=>
 (Qi CC (DV.fn 10 []) [U] ((σ++[Row.mix z3])++[Row.mix z4])).bind fun O=>
 (unOp .not O).bind fun R=>
 Gp G R false (fieldAddr PP 28 (DV.ptr (List.length (σ++[Row.mix z3])) 0) 0) ((σ++[Row.mix z3])++[Row.mix z4]) fun L σ1=>
 Gp G R false (load PP 22 L σ1) σ1 fun t σ2=>
 Gp G R false (len PP 22 t σ2) σ2 fun o σ3=>
 Gp G R false (binOp PP .gtr 3 o (DV.p (PV.int IntKind.i64 (40)))) σ3 fun u σ4=>
 (Qt R (DV.p (PV.bool true)) u).bind fun I=>
 Gp G I false (fieldAddr PP 28 (DV.ptr (List.length (σ++[Row.mix z3])) 0) 1) σ4 fun ah σ5=>
 Gp G I false (load PP 26 ah σ5) σ5 fun W σ6=>
 Gp G I false (Qi CC (DV.fn 11 []) [W] σ6) σ6 fun au σ7=>
 Gp G I false (unOp .not au) σ7 fun af σ8=>
 (Qt I (DV.p (PV.bool true)) af).bind fun ak=>
 G _ ak false (some (c,σ8)) σ8 fun H σ9=>
 Gp G ak false (len PP 22 H σ9) σ9 fun ae σ10=>
 Gp G ak false (binOp PP .gtr 3 ae (DV.p (PV.int IntKind.i64 (62)))) σ10 fun X σ11=>
 (Qt ak (DV.p (PV.bool true)) X).bind fun aq=>
 Qj aq
 (
 some ((DV.p (PV.bool true)),σ11)
 )
 (
 (load PP 25 (DV.ptr (List.length σ) 0) σ11).bind fun ar=>
 (Qi CC (DV.fn 13 []) [ar] σ11).bind fun aa=>
 (load PP 28 (DV.ptr (List.length (σ++[Row.mix z3])) 0) σ11).bind fun J=>
 (Qi CC (DV.fn 14 []) [J] σ11).bind fun C=>
 (Qi CC (DV.fn 12 []) [aa,C] σ11).bind fun x=>
 (Ql x 0).bind fun B=>
 (Ql x 1).bind fun V=>
 (Qz PP 33).bind fun z7=>
 (store PP lo 33 (DV.ptr (List.length σ11) 0) B (σ11++[Row.mix z7])).bind fun σ12=>
 (load PP 25 (DV.ptr (List.length σ) 0) σ12).bind fun P=>
 (Qi CC (DV.fn 13 []) [P] σ12).bind fun y=>
 (load PP 28 (DV.ptr (List.length (σ++[Row.mix z3])) 0) σ12).bind fun Q=>
 (Qi CC (DV.fn 14 []) [Q] σ12).bind fun M=>
 (Qi CC (DV.fn 16 []) [c] σ12).bind fun aw=>
 (Qi CC (DV.fn 15 []) [y,M,aw] σ12).bind fun bb=>
 (Ql bb 0).bind fun Y=>
 (Ql bb 1).bind fun S=>
 (load PP 25 (DV.ptr (List.length σ) 0) σ12).bind fun T=>
 (Qi CC (DV.fn 17 []) [T] σ12).bind fun am=>
 (binOp PP .eql 3 am I0).bind fun bp=>
 Qj bp
 (
 (load PP 25 (DV.ptr (List.length σ) 0) σ12).bind fun ao=>
 (load PP 28 (DV.ptr (List.length (σ++[Row.mix z3])) 0) σ12).bind fun bc=>
 (Qi CC (DV.fn 18 []) [ao,bc] σ12).bind fun az=>
 (binOp PP .neq 3 az I0).bind fun bv=>
 Qj bv
 (
 (load PP 33 (DV.ptr (List.length σ11) 0) σ12).bind fun bj=>
 (build PP 46 [(0,bj),(1,V)]).bind fun br=>
 (build PP 33 []).bind fun b8=>
 (Qi CC (DV.fn 19 []) [br,az,b8] σ12).bind fun cb=>
 G _ cb true (some (S,σ12)) σ12 fun bt σ13=>
 G _ cb true (some (az,σ13)) σ13 fun b9 σ14=>
 Gp G cb true (binOp PP .eql 3 bt b9) σ14 fun cv σ15=>
 (Qt cb cv (DV.p (PV.bool false))).bind fun c9=>
 G _ c9 true (some (Y,σ15)) σ15 fun cm σ16=>
 Gp G c9 true (len PP 22 cm σ16) σ16 fun cd σ17=>
 Gp G c9 true (binOp PP .eql 3 cd I0) σ17 fun bm σ18=>
 (Qt c9 bm (DV.p (PV.bool false))).bind fun c8=>
 some (c8,σ18)
 )
 (
 (load PP 25 (DV.ptr (List.length σ) 0) σ12).bind fun bz=>
 (load PP 28 (DV.ptr (List.length (σ++[Row.mix z3])) 0) σ12).bind fun ca=>
 (Qi CC (DV.fn 20 []) [bz,ca] σ12).bind fun cq=>
 (Qz PP 33).bind fun z12=>
 (store PP lo 33 (DV.ptr (List.length σ12) 0) cq (σ12++[Row.mix z12])).bind fun σ19=>
 (load PP 33 (DV.ptr (List.length σ11) 0) σ19).bind fun n=>
 (build PP 46 [(0,n),(1,V)]).bind fun bg=>
 (load PP 33 (DV.ptr (List.length σ12) 0) σ19).bind fun bq=>
 (Qi CC (DV.fn 19 []) [bg,I0,bq] σ19).bind fun bl=>
 (unOp .not bl).bind fun bn=>
 Gp G bn false (load PP 33 (DV.ptr (List.length σ12) 0) σ19) σ19 fun ch σ20=>
 Gp G bn false (Qi CC (DV.fn 21 []) [ch] σ20) σ20 fun cn σ21=>
 (Qt bn (DV.p (PV.bool true)) cn).bind fun cu=>
 Qj cu
 (
 (load PP 33 (DV.ptr (List.length σ12) 0) σ21).bind fun cg=>
 (Qi CC (DV.fn 21 []) [cg] σ21).bind fun c7=>
 G _ c7 true (some (V,σ21)) σ21 fun cj σ22=>
 Gp G c7 true (binOp PP .eql 34 cj (DV.p (PV.int IntKind.i64 (2)))) σ22 fun cc σ23=>
 (Qt c7 cc (DV.p (PV.bool false))).bind fun bu=>
 G _ bu true (some (S,σ23)) σ23 fun db σ24=>
 Gp G bu true (binOp PP .eql 34 db (DV.p (PV.int IntKind.i64 (2)))) σ24 fun bh σ25=>
 (Qt bu bh (DV.p (PV.bool false))).bind fun df=>
 some (df,σ25)
 )
 (
 (load PP 25 (DV.ptr (List.length σ) 0) σ21).bind fun ee=>
 (Qi CC (DV.fn 22 []) [ee,c] σ21).bind fun dq=>
 (binOp PP .neq 3 dq I0).bind fun ef=>
 Qj ef
 (
 (binOp PP .eql 3 S dq).bind fun di=>
 G _ di true (some (Y,σ21)) σ21 fun dr σ26=>
 Gp G di true (len PP 22 dr σ26) σ26 fun ai σ27=>
 Gp G di true (binOp PP .eql 3 ai I0) σ27 fun bw σ28=>
 (Qt di bw (DV.p (PV.bool false))).bind fun eg=>
 some (eg,σ28)
 )
 (
 (binOp PP .eql 34 S I0).bind fun cp=>
 Gp G cp true (load PP 33 (DV.ptr (List.length σ11) 0) σ21) σ21 fun eh σ29=>
 G _ cp true (some (c,σ29)) σ29 fun dw σ30=>
 G _ cp true (some (Y,σ30)) σ30 fun ce σ31=>
 Gp G cp true (load PP 25 (DV.ptr (List.length σ) 0) σ31) σ31 fun ei σ32=>
 Gp G cp true (load PP 28 (DV.ptr (List.length (σ++[Row.mix z3])) 0) σ32) σ32 fun ck σ33=>
 G _ cp true (some (c,σ33)) σ33 fun dl σ34=>
 Gp G cp true (Qi CC (DV.fn 24 []) [ei,ck,dl] σ34) σ34 fun en σ35=>
 Gp G cp true (Qi CC (DV.fn 23 []) [eh,dw,ce,en] σ35) σ35 fun co σ36=>
 (Qt cp co (DV.p (PV.bool false))).bind fun du=>
 some (du,σ36)
 )
 )
 )
 )
 (
 (binOp PP .neq 3 am I0).bind fun bv=>
 Qj bv
 (
 (load PP 33 (DV.ptr (List.length σ11) 0) σ12).bind fun bj=>
 (build PP 46 [(0,bj),(1,V)]).bind fun br=>
 (build PP 33 []).bind fun b8=>
 (Qi CC (DV.fn 19 []) [br,am,b8] σ12).bind fun cb=>
 G _ cb true (some (S,σ12)) σ12 fun bt σ37=>
 G _ cb true (some (am,σ37)) σ37 fun b9 σ38=>
 Gp G cb true (binOp PP .eql 3 bt b9) σ38 fun cv σ39=>
 (Qt cb cv (DV.p (PV.bool false))).bind fun c9=>
 G _ c9 true (some (Y,σ39)) σ39 fun cm σ40=>
 Gp G c9 true (len PP 22 cm σ40) σ40 fun cd σ41=>
 Gp G c9 true (binOp PP .eql 3 cd I0) σ41 fun bm σ42=>
 (Qt c9 bm (DV.p (PV.bool false))).bind fun c8=>
 some (c8,σ42)
 )
 (
 (load PP 25 (DV.ptr (List.length σ) 0) σ12).bind fun bz=>
 (load PP 28 (DV.ptr (List.length (σ++[Row.mix z3])) 0) σ12).bind fun ca=>
 (Qi CC (DV.fn 20 []) [bz,ca] σ12).bind fun cq=>
 (Qz PP 33).bind fun z12=>
 (store PP lo 33 (DV.ptr (List.length σ12) 0) cq (σ12++[Row.mix z12])).bind fun σ43=>
 (load PP 33 (DV.ptr (List.length σ11) 0) σ43).bind fun n=>
 (build PP 46 [(0,n),(1,V)]).bind fun bg=>
 (load PP 33 (DV.ptr (List.length σ12) 0) σ43).bind fun bq=>
 (Qi CC (DV.fn 19 []) [bg,I0,bq] σ43).bind fun bl=>
 (unOp .not bl).bind fun bn=>
 Gp G bn false (load PP 33 (DV.ptr (List.length σ12) 0) σ43) σ43 fun ch σ44=>
 Gp G bn false (Qi CC (DV.fn 21 []) [ch] σ44) σ44 fun cn σ45=>
 (Qt bn (DV.p (PV.bool true)) cn).bind fun cu=>
 Qj cu
 (
 (load PP 33 (DV.ptr (List.length σ12) 0) σ45).bind fun cg=>
 (Qi CC (DV.fn 21 []) [cg] σ45).bind fun c7=>
 G _ c7 true (some (V,σ45)) σ45 fun cj σ46=>
 Gp G c7 true (binOp PP .eql 34 cj (DV.p (PV.int IntKind.i64 (2)))) σ46 fun cc σ47=>
 (Qt c7 cc (DV.p (PV.bool false))).bind fun bu=>
 G _ bu true (some (S,σ47)) σ47 fun db σ48=>
 Gp G bu true (binOp PP .eql 34 db (DV.p (PV.int IntKind.i64 (2)))) σ48 fun bh σ49=>
 (Qt bu bh (DV.p (PV.bool false))).bind fun df=>
 some (df,σ49)
 )
 (
 (load PP 25 (DV.ptr (List.length σ) 0) σ45).bind fun ee=>
 (Qi CC (DV.fn 22 []) [ee,c] σ45).bind fun dq=>
 (binOp PP .neq 3 dq I0).bind fun ef=>
 Qj ef
 (
 (binOp PP .eql 3 S dq).bind fun di=>
 G _ di true (some (Y,σ45)) σ45 fun dr σ50=>
 Gp G di true (len PP 22 dr σ50) σ50 fun ai σ51=>
 Gp G di true (binOp PP .eql 3 ai I0) σ51 fun bw σ52=>
 (Qt di bw (DV.p (PV.bool false))).bind fun eg=>
 some (eg,σ52)
 )
 (
 (binOp PP .eql 34 S I0).bind fun cp=>
 Gp G cp true (load PP 33 (DV.ptr (List.length σ11) 0) σ45) σ45 fun eh σ53=>
 G _ cp true (some (c,σ53)) σ53 fun dw σ54=>
 G _ cp true (some (Y,σ54)) σ54 fun ce σ55=>
 Gp G cp true (load PP 25 (DV.ptr (List.length σ) 0) σ55) σ55 fun ei σ56=>
 Gp G cp true (load PP 28 (DV.ptr (List.length (σ++[Row.mix z3])) 0) σ56) σ56 fun ck σ57=>
 G _ cp true (some (c,σ57)) σ57 fun dl σ58=>
 Gp G cp true (Qi CC (DV.fn 24 []) [ei,ck,dl] σ58) σ58 fun en σ59=>
 Gp G cp true (Qi CC (DV.fn 23 []) [eh,dw,ce,en] σ59) σ59 fun co σ60=>
 (Qt cp co (DV.p (PV.bool false))).bind fun du=>
 some (du,σ60)
 )
 )
 )
 )
 )
 ):=by kernel_rfl
theorem F3_eq (G:Qh) (lo:Nat) (a b c:DV) (σ:Qa):F3 G lo a b c σ =
 (boxV a).bind fun z3=>
 (boxV b).bind fun z4=>
 (Qi CC (DV.fn 9 []) [] ((σ++[Row.mix z3])++[Row.mix z4])).bind fun w=>
 (unOp .not w).bind fun z=>
 Qj z
 (
 some ((DV.p (PV.bool false)),((σ++[Row.mix z3])++[Row.mix z4]))
 )
 (
 (load PP 25 (DV.ptr (List.length σ) 0) ((σ++[Row.mix z3])++[Row.mix z4])).bind fun U=>
 (Qi CC (DV.fn 10 []) [U] ((σ++[Row.mix z3])++[Row.mix z4])).bind fun O=>
 (unOp .not O).bind fun R=>
 Gp G R false (fieldAddr PP 28 (DV.ptr (List.length (σ++[Row.mix z3])) 0) 0) ((σ++[Row.mix z3])++[Row.mix z4]) fun L σ1=>
 Gp G R false (load PP 22 L σ1) σ1 fun t σ2=>
 Gp G R false (len PP 22 t σ2) σ2 fun o σ3=>
 Gp G R false (binOp PP .gtr 3 o (DV.p (PV.int IntKind.i64 (40)))) σ3 fun u σ4=>
 (Qt R (DV.p (PV.bool true)) u).bind fun I=>
 Gp G I false (fieldAddr PP 28 (DV.ptr (List.length (σ++[Row.mix z3])) 0) 1) σ4 fun ah σ5=>
 Gp G I false (load PP 26 ah σ5) σ5 fun W σ6=>
 Gp G I false (Qi CC (DV.fn 11 []) [W] σ6) σ6 fun au σ7=>
 Gp G I false (unOp .not au) σ7 fun af σ8=>
 (Qt I (DV.p (PV.bool true)) af).bind fun ak=>
 G _ ak false (some (c,σ8)) σ8 fun H σ9=>
 Gp G ak false (len PP 22 H σ9) σ9 fun ae σ10=>
 Gp G ak false (binOp PP .gtr 3 ae (DV.p (PV.int IntKind.i64 (62)))) σ10 fun X σ11=>
 (Qt ak (DV.p (PV.bool true)) X).bind fun aq=>
 Qj aq
 (
 some ((DV.p (PV.bool true)),σ11)
 )
 (
 (load PP 25 (DV.ptr (List.length σ) 0) σ11).bind fun ar=>
 (Qi CC (DV.fn 13 []) [ar] σ11).bind fun aa=>
 (load PP 28 (DV.ptr (List.length (σ++[Row.mix z3])) 0) σ11).bind fun J=>
 (Qi CC (DV.fn 14 []) [J] σ11).bind fun C=>
 (Qi CC (DV.fn 12 []) [aa,C] σ11).bind fun x=>
 (Ql x 0).bind fun B=>
 (Ql x 1).bind fun V=>
 (Qz PP 33).bind fun z7=>
 (store PP lo 33 (DV.ptr (List.length σ11) 0) B (σ11++[Row.mix z7])).bind fun σ12=>
 (load PP 25 (DV.ptr (List.length σ) 0) σ12).bind fun P=>
 (Qi CC (DV.fn 13 []) [P] σ12).bind fun y=>
 (load PP 28 (DV.ptr (List.length (σ++[Row.mix z3])) 0) σ12).bind fun Q=>
 (Qi CC (DV.fn 14 []) [Q] σ12).bind fun M=>
 (Qi CC (DV.fn 16 []) [c] σ12).bind fun aw=>
 (Qi CC (DV.fn 15 []) [y,M,aw] σ12).bind fun bb=>
 (Ql bb 0).bind fun Y=>
 (Ql bb 1).bind fun S=>
 (load PP 25 (DV.ptr (List.length σ) 0) σ12).bind fun T=>
 (Qi CC (DV.fn 17 []) [T] σ12).bind fun am=>
 (binOp PP .eql 3 am I0).bind fun bp=>
 Qj bp
 (
 (load PP 25 (DV.ptr (List.length σ) 0) σ12).bind fun ao=>
 (load PP 28 (DV.ptr (List.length (σ++[Row.mix z3])) 0) σ12).bind fun bc=>
 (Qi CC (DV.fn 18 []) [ao,bc] σ12).bind fun az=>
 f3_J0 G lo a b c (DV.ptr (List.length σ) 0) (DV.ptr (List.length (σ++[Row.mix z3])) 0) (DV.p (PV.bool false)) (DV.ptr (List.length σ11) 0) V Y S az w z U O R R L t o u I I ah W au af ak ak H ae X aq x ar aa J C x B V bb P y Q M c aw bb Y S T am am bp ao bc az σ12
 )
 (
 f3_J0 G lo a b c (DV.ptr (List.length σ) 0) (DV.ptr (List.length (σ++[Row.mix z3])) 0) (DV.p (PV.bool false)) (DV.ptr (List.length σ11) 0) V Y S am w z U O R R L t o u I I ah W au af ak ak H ae X aq x ar aa J C x B V bb P y Q M c aw bb Y S T am am bp Z Z Z σ12
 )
 )
 ):=(F3_eqN G lo a b c σ).trans (by simp only [f3_J0_eq])
theorem F3_call {lo:Nat} {a b c:DV} (h:F3 Qb lo a b c σ=some r):CC lo 3 [a,b,c] σ=some r:=
 callL_run Tryz.func3 (by decide +kernel) rfl (by decide +kernel) h
end
end Go.D
end
/- Chapter 22: the reference's extended graph: numbers, first states and steps. -/
section
set_option linter.unusedVariables false
set_option linter.unusedSimpArgs false
namespace Go.D.StS
open Go.D.Srt
def ZS (S:List Bool) (k:Nat):List Nat:=(List.range k).filter fun n=>S.getD n false
def rk (S:List Bool) (n:Nat):Nat:=(ZS S n).length
theorem seenR_succ (S:List Bool) (k:Nat):ZS S (k+1)=if S.getD k false=true then ZS S k++[k] else ZS S k:=by
  unfold ZS
  rw [List.range_succ,List.filter_append]
  by_cases h:S.getD k false=true
  · rw [if_pos h,List.filter_cons_of_pos (by simpa using h)]; rfl
  · rw [if_neg h,List.filter_cons_of_neg (by simpa using h)]; simp
theorem rk_le (S:List Bool) (n:Nat):rk S n≤n:=by
  unfold rk ZS
  exact Nat.le_trans (List.length_filter_le _ _) (by simp)
theorem stMix {σ:Qa} {t off:Nat} {cs:List DV} {v:DV} (h:σ[t]?=some (.mix cs)) (ho:off<cs.length) (hv:v.one=true):Zs 0 [v] σ (.ptr t off)=some (σ.set t (.mix (cs.set off v))):=by
  have e:QS cs off [v]=cs.set off v:=by
    unfold QS
    rw [List.set_eq_take_append_cons_drop]
    simp [ho]
  simp [Zs,h,hv,e]
  omega
section
variable {σ : Qa} {t : Nat} {c0 c1 c2 c3 c4 v : DV} (h : σ[t]? = some (.mix [c0, c1, c2, c3, c4])) (hv : v.one = true) (hc : v.cells = [v])
include h hv hc
theorem st5_0:store PP 0 3 (.ptr t 0) v σ=some (σ.set t (.mix [v,c1,c2,c3,c4])):=by
  simp only [store,s3,hc,List.length_cons,List.length_nil,if_true]; exact stMix h (by simp) hv
theorem st5_1:store PP 0 22 (.ptr t 1) v σ=some (σ.set t (.mix [c0,v,c2,c3,c4])):=by
  simp only [store,s22',hc,List.length_cons,List.length_nil,if_true]; exact stMix h (by simp) hv
theorem st5_2:store PP 0 23 (.ptr t 2) v σ=some (σ.set t (.mix [c0,c1,v,c3,c4])):=by
  simp only [store,s23',hc,List.length_cons,List.length_nil,if_true]; exact stMix h (by simp) hv
theorem st5_3:store PP 0 22 (.ptr t 3) v σ=some (σ.set t (.mix [c0,c1,c2,v,c4])):=by
  simp only [store,s22',hc,List.length_cons,List.length_nil,if_true]; exact stMix h (by simp) hv
theorem st5_4:store PP 0 22 (.ptr t 4) v σ=some (σ.set t (.mix [c0,c1,c2,c3,v])):=by
  simp only [store,s22',hc,List.length_cons,List.length_nil,if_true]; exact stMix h (by simp) hv
end
theorem b_quo8 {n:Nat} (h:n≤1000000):binOp PP .quo 3 (.p (.int .i64 (n:Nat))) (.p (.int .i64 8))=some (.p (.int .i64 ((n / 8:Nat):Int))):=by
  have e:binOp PP .quo 3 (.p (.int .i64 (n:Nat))) (.p (.int .i64 8))=some (.p (.int .i64 (IntKind.wrap .i64 (Int.tdiv (n:Nat) 8)))):=Eq.trans (by kernel_rfl) rfl
  have e2:Int.tdiv (n:Nat) 8=((n / 8:Nat):Int):=rfl
  rw [e,e2,QL (by omega) (by omega)]
theorem b_rem8 {n:Nat} (h:n≤1000000):binOp PP .rem 3 (.p (.int .i64 (n:Nat))) (.p (.int .i64 8))=some (.p (.int .i64 ((n % 8:Nat):Int))):=by
  have e:binOp PP .rem 3 (.p (.int .i64 (n:Nat))) (.p (.int .i64 8))=some (.p (.int .i64 (Int.tmod (n:Nat) 8))):=Eq.trans (by kernel_rfl) rfl
  have e2:Int.tmod (n:Nat) 8=((n % 8:Nat):Int):=rfl
  rw [e,e2]
structure BZ (S:List Bool) (n ix ex bx ax:DV) (nm:List Int) (σ:Qa):Prop where
  r0:σ[0]?=some (.mix Z5)
  r1:σ[1]?=some (.arr (Wl S))
  r2:σ[2]?=some (.mix [n,ix,ex,bx,ax])
  r3:σ[3]?=some (.arr (Qu nm))
theorem BZ.len {S:List Bool} {n ix ex bx ax:DV} {nm:List Int} {σ:Qa} (h:BZ S n ix ex bx ax nm σ):4≤σ.length:=by have:=QW h.r3; omega
theorem BZ.oth {S:List Bool} {n ix ex bx ax:DV} {nm:List Int} {σ σ':Qa} (h:BZ S n ix ex bx ax nm σ) {lo sz m:Nat} {cs:List PV} {z:DV} (hz:Out σ lo sz m cs z) (ho:Others σ σ' z):BZ S n ix ex bx ax nm σ':=
  ⟨Others.mix ho hz h.r0 (fun v e=>by cases e),Others.mix ho hz h.r1 (fun v e=>by cases e),Others.mix ho hz h.r2 (fun v e=>by cases e),Others.mix ho hz h.r3 (fun v e=>by cases e)⟩
theorem BZ.set2 {S:List Bool} {n ix ex bx ax:DV} {nm:List Int} {σ:Qa} (h:BZ S n ix ex bx ax nm σ) (n' ix' ex' bx' ax':DV):BZ S n' ix' ex' bx' ax' nm (σ.set 2 (.mix [n',ix',ex',bx',ax'])):=by
  have:=h.len
  exact ⟨Qv h.r0 (by omega),Qv h.r1 (by omega),by rw [List.getElem?_set_self (by omega)],Qv h.r3 (by omega)⟩
theorem BZ.set3 {S:List Bool} {n ix ex bx ax:DV} {nm:List Int} {σ:Qa} (h:BZ S n ix ex bx ax nm σ) (nm':List Int):BZ S n ix ex bx ax nm' (σ.set 3 (.arr (Qu nm'))):=by
  have:=h.len
  exact ⟨Qv h.r0 (by omega),Qv h.r1 (by omega),Qv h.r2 (by omega),by rw [List.getElem?_set_self (by omega)]⟩
theorem set_getI (l:List Int) {t:Nat} (ht:t<l.length) (v:Int) (n:Nat):(l.set t v).getD n 0=if t=n then v else l.getD n 0:=by
  rw [List.getD_eq_getElem?_getD,List.getElem?_set,List.getD_eq_getElem?_getD]
  by_cases h:t=n
  · subst h; simp [ht]
  · simp [h]
def natI (l:List Nat):List Int:=l.map fun (j:Nat)=>(j:Int)
section
variable {o : OI} {q : OE} {S : List Bool} (hS : S.length = 240)
include hS
theorem bl_L3 {ix ex:DV}:∀ (d k:Nat) (bx ax:DV) (nm:List Int) (σ:Qa),240-k=d→k≤240→BZ S (.p (.int .i64 (rk S k:Nat))) ix ex bx ax nm σ→nm.length=240→(∀ j,j<k→S.getD j false=true→nm.getD j 0=((rk S j:Nat):Int))→
    Out σ 4 1 (rk S k) (Qu (natI ((ZS S k).map (· / 8)))) bx→Out σ 4 1 (rk S k) (Qu (natI ((ZS S k).map (· % 8)))) ax→Apart bx ax→
    ∃ bx' ax' nm' σ',f60_L3 Qb 0 (.p (eSl o)) (.p (eEs q)) (.ptr 0 0) (.rsl 1 1 0 240) (.ptr 2 0) (.rsl 3 1 0 240) (N k) σ=f60_L4 Qb 0 (.p (eSl o)) (.p (eEs q)) (.ptr 0 0) (.rsl 1 1 0 240) (.ptr 2 0) (.rsl 3 1 0 240) (N 0) σ'∧
      BZ S (.p (.int .i64 (rk S 240:Nat))) ix ex bx' ax' nm' σ'∧nm'.length=240∧(∀ j,j<240→S.getD j false=true→nm'.getD j 0=((rk S j:Nat):Int))∧
      Out σ' 4 1 (rk S 240) (Qu (natI ((ZS S 240).map (· / 8)))) bx'∧Out σ' 4 1 (rk S 240) (Qu (natI ((ZS S 240).map (· % 8)))) ax'∧Apart bx' ax'
  | 0,k,bx,ax,nm,σ,hd,hk,h,hn,hm,hb,ha,hap=>by
    have e:k=240:=by omega
    subst e
    refine ⟨bx,ax,nm,σ,?_,h,hn,hm,hb,ha,hap⟩
    rw [f60_L3_eq Qb rfl]
    simp (disch:=omega) only [N,Ui,Qp,ltF,gG]
    rfl
  | d+1,k,bx,ax,nm,σ,hd,hk,h,hn,hm,hb,ha,hap=>by
    have hlt:((k:Nat):Int)<((240:Nat):Int):=by omega
    have ix0:indexAddr PP 81 (.rsl 1 1 0 240) (.p (.int .i64 (k:Nat)))=some (.ptr 1 k):=Jb (i:=(k:Nat)) (by omega) (by omega)
    have ix3:indexAddr PP 22 (.rsl 3 1 0 240) (.p (.int .i64 (k:Nat)))=some (.ptr 3 k):=idx22a (i:=(k:Nat)) (by omega) (by omega)
    have lb:=UJ h.r1 (t:=k) (by omega)
    cases hs:S.getD k false with
    | false=>
      rw [hs] at lb
      have e1:ZS S (k+1)=ZS S k:=by rw [seenR_succ,hs]; rfl
      have e2:rk S (k+1)=rk S k:=by unfold rk; rw [e1]
      obtain ⟨bx',ax',nm',σ',r1,r2⟩:=bl_L3 d (k+1) bx ax nm σ (by omega) (by omega) (by rw [e2]; exact h) hn (fun j hj hsj=>by
        by_cases e:j=k
        · subst e; rw [hs] at hsj; exact absurd hsj (by decide)
        · exact hm j (by omega) hsj) (by rw [e1,e2]; exact hb) (by rw [e1,e2]; exact ha) hap
      refine ⟨bx',ax',nm',σ',?_,r2⟩
      rw [←r1,f60_L3_eq Qb rfl]
      simp (disch:=omega) only [N,Ui,Qp,ltT hlt,gG,ix0,UG,lb,f60_J1_eq,add1]
    | true=>
      rw [hs] at lb
      have hrk:=rk_le S k
      have e1:ZS S (k+1)=ZS S k++[k]:=by rw [seenR_succ,hs]; rfl
      have e2:rk S (k+1)=rk S k+1:=by unfold rk; rw [e1]; simp
      have hl:=h.len
      have s1:=st3a (b:=((rk S k:Nat):Int)) h.r3 (t:=k) (by omega)
      have h1:=h.set3 (nm.set k ((rk S k:Nat):Int))
      have hb1:=Out.setLow hb (q:=3) (by omega) (.arr (Qu (nm.set k ((rk S k:Nat):Int))))
      have ha1:=Out.setLow ha (q:=3) (by omega) (.arr (Qu (nm.set k ((rk S k:Nat):Int))))
      generalize hσ1:σ.set 3 (.arr (Qu (nm.set k ((rk S k:Nat):Int))))=σ1 at *
      have s2:=st5_0 (v:=.p (.int .i64 ((rk S k+1:Nat):Int))) h1.r2 rfl rfl
      have h2:=h1.set2 (.p (.int .i64 ((rk S k+1:Nat):Int))) ix ex bx ax
      have hb2:=Out.setLow hb1 (q:=2) (by omega) (.mix [.p (.int .i64 ((rk S k+1:Nat):Int)),ix,ex,bx,ax])
      have ha2:=Out.setLow ha1 (q:=2) (by omega) (.mix [.p (.int .i64 ((rk S k+1:Nat):Int)),ix,ex,bx,ax])
      generalize hσ2:σ1.set 2 (.mix [.p (.int .i64 ((rk S k+1:Nat):Int)),ix,ex,bx,ax])=σ2 at *
      obtain ⟨bx2,σ3,p1,p2,p3,p4⟩:=Out.pushG (lo:=0) (vs:=[pI (k / 8:Nat)]) Uy u22 s3 VH Ur rfl (by decide) (by decide) (by decide) rfl hb2 (by omega) h2.len (Nat.zero_le _)
      have h3:=h2.oth hb2 p3
      have ha3:=Out.other ha2 p3 hap
      have hap3:Apart bx2 ax:=Apart.fresh hap p4 ha2
      obtain ⟨ax2,σ4,q1,q2,q3,q4⟩:=Out.pushG (lo:=0) (vs:=[pI (k % 8:Nat)]) Uy u22 s3 VH Ur rfl (by decide) (by decide) (by decide) rfl ha3 (by omega) h3.len (Nat.zero_le _)
      have h4:=h3.oth ha3 q3
      have hb4:=Out.other p2 q3 hap3.symm
      have hap4:Apart bx2 ax2:=(Apart.fresh hap3.symm q4 p2).symm
      have s3':=st5_3 h4.r2 (QQ p2).1 (QQ p2).2
      have h5:=h4.set2 (.p (.int .i64 ((rk S k+1:Nat):Int))) ix ex bx2 ax
      have hb5:=Out.setLow hb4 (q:=2) (by omega) (.mix [.p (.int .i64 ((rk S k+1:Nat):Int)),ix,ex,bx2,ax])
      have ha5:=Out.setLow q2 (q:=2) (by omega) (.mix [.p (.int .i64 ((rk S k+1:Nat):Int)),ix,ex,bx2,ax])
      generalize hσ5:σ4.set 2 (.mix [.p (.int .i64 ((rk S k+1:Nat):Int)),ix,ex,bx2,ax])=σ5 at *
      have s4':=st5_4 h5.r2 (QQ q2).1 (QQ q2).2
      have h6:=h5.set2 (.p (.int .i64 ((rk S k+1:Nat):Int))) ix ex bx2 ax2
      have hb6:=Out.setLow hb5 (q:=2) (by omega) (.mix [.p (.int .i64 ((rk S k+1:Nat):Int)),ix,ex,bx2,ax2])
      have ha6:=Out.setLow ha5 (q:=2) (by omega) (.mix [.p (.int .i64 ((rk S k+1:Nat):Int)),ix,ex,bx2,ax2])
      generalize hσ6:σ5.set 2 (.mix [.p (.int .i64 ((rk S k+1:Nat):Int)),ix,ex,bx2,ax2])=σ6 at *
      have w1:Qu (natI ((ZS S k).map (· / 8)))++[pI (k / 8:Nat)]=Qu (natI ((ZS S (k+1)).map (· / 8))):=by rw [e1]; simp [natI,Qu]
      have w2:Qu (natI ((ZS S k).map (· % 8)))++[pI (k % 8:Nat)]=Qu (natI ((ZS S (k+1)).map (· % 8))):=by rw [e1]; simp [natI,Qu]
      rw [w1,←e2] at hb6
      rw [w2,←e2] at ha6
      obtain ⟨bx',ax',nm',σ',r1,r2⟩:=bl_L3 d (k+1) bx2 ax2 _ σ6 (by omega) (by omega) (by rw [e2]; exact h6) (by simpa using hn) (fun j hj hsj=>by
        rw [set_getI _ (by omega)]
        by_cases e:k=j
        · subst e; rw [if_pos rfl]
        · rw [if_neg e]; exact hm j (by omega) hsj) hb6 ha6 hap4
      refine ⟨bx',ax',nm',σ',?_,r2⟩
      have v2:=Qd (off:=4) h2.r2 (v:=ax) rfl
      have v3:=Qd (off:=4) h3.r2 (v:=ax) rfl
      have hsv:=sameV_out ha2
      rw [←r1,f60_L3_eq Qb rfl]
      simp (disch:=omega) only [N,Ui,Qp,ltT hlt,gG,ix0,UG,lb,Wj,We,WW,ZP,Qe,Qf,Nat.zero_add,Nat.add_zero,Qc,List.append_nil,List.singleton_append,List.cons_append,List.nil_append,QJ,Qd (off:=0) h.r2 (v:=.p (.int .i64 (rk S k:Nat))) rfl,ix3,s1,Qd (off:=0) h1.r2 (v:=.p (.int .i64 (rk S k:Nat))) rfl,add1,s2,
        QH,Qd (off:=3) h2.r2 (v:=bx) rfl,b_quo8,b_rem8,VI,p1,v3,q1,s3',s4',v2,hsv,List.all_cons,List.all_nil,Bool.and_true,Bool.true_and,cond_true,f60_J1_eq]
end
theorem eqM' (a b c a' b' c':Int):binOp PP .eql 109 (.agg (edgD ⟨a,b,c⟩)) (.agg (edgD ⟨a',b',c'⟩))=((match some (a==a') with | some true=>(match some (b==b') with | some true=>(match some (c==c') with | some true=>some true | r=>r) | r=>r) | r=>r):Option Bool).map fun b=>.p (.bool b):=by kernel_rfl
theorem eqM (x y:Edg):binOp PP .eql 109 (.agg (edgD x)) (.agg (edgD y))=some (.p (.bool (decide (x=y)))):=by
  obtain ⟨a,b,c⟩:=x
  obtain ⟨a',b',c'⟩:=y
  rw [eqM']
  by_cases h1:a=a'
  · by_cases h2:b=b'
    · by_cases h3:c=c'
      · subst h1; subst h2; subst h3; simp
      · simp [h1,h2,h3]
    · simp [h1,h2]
  · simp [h1]
def hasM (l:List Edg) (e:Edg):Bool:=l.any fun x=>decide (x=e)
theorem load109 (x:DV) (σ:Qa):load PP 109 x σ=(Wh σ 3 x).map .agg:=Eq.trans (by kernel_rfl) rfl
theorem L94 {q:OE} {e:Edg} {σ:Qa} (h0:σ[0]?=some (.mix (edgD e))) (hl:(L q).length≤10000):∀ (d i:Nat),(L q).length-i=d→i≤(L q).length→
    f94_L0 Qb 0 (.p (eEs q)) (.ptr 0 0) (N i) σ=some (.p (.bool (hasM ((L q).drop i) e)),σ)
  | 0,i,hd,hi=>by
    rw [f94_L0_eq Qb rfl,List.drop_of_length_le (by omega)]
    simp (disch:=omega) only [N,UI,Qp,ltF,gG]
    rfl
  | d+1,i,hd,hi=>by
    have hil:i<(L q).length:=by omega
    have ih:=L94 h0 hl d (i+1) (by omega) (by omega)
    have e0:(L q).drop i=gE (L q) i::(L q).drop (i+1):=by rw [Vh hil]; exact List.drop_eq_getElem_cons hil
    have hld:(Wh σ 3 (.ptr 0 0)).map DV.agg=some (.agg (edgD e)):=by rw [QK (vs:=edgD e) h0 rfl (by simp [edgD])]; rfl
    unfold hasM at ih ⊢
    rw [f94_L0_eq Qb rfl,e0,List.any_cons]
    by_cases h1:gE (L q) i=e
    · simp (disch:=omega) only [N,UI,Qp,ltT,gG,idx106,load109,ld69,hld,eqM,decide_eq_true h1,Bool.true_or]
    · simp (disch:=omega) only [N,UI,Qp,ltT,gG,idx106,load109,ld69,hld,eqM,decide_eq_false h1,Bool.false_or,add1]
      exact ih
theorem S94 {q:OE} {e:Edg} {σ:Qa} (hl:(L q).length≤10000):Qx CC 94 [.p (eEs q),.agg (edgD e)] σ=some (.p (.bool (hasM (L q) e))):=by
  refine Qn (by simp [es_view]; rfl) rfl (F94_call (r:=(.p (.bool (hasM (L q) e)),[.mix (edgD e)])) ?_) rfl
  have hb:boxV (.agg (edgD e))=some (edgD e):=rfl
  have:=L94 (q:=q) (e:=e) (σ:=[.mix (edgD e)]) rfl hl _ 0 rfl (Nat.zero_le _)
  rw [List.drop_zero] at this
  rw [F94_eq]
  simp only [hb,gG,List.length_nil,List.nil_append]
  exact this
def firF (l:List Int) (k:Nat):List Nat:=(List.range k).filter fun (n:Nat)=>hasI l (n:Int)
theorem firF_succ (l:List Int) (k:Nat):firF l (k+1)=if hasI l (k:Int)=true then firF l k++[k] else firF l k:=by
  unfold firF
  rw [List.range_succ,List.filter_append]
  by_cases h:hasI l (k:Int)=true
  · rw [if_pos h,List.filter_cons_of_pos (by simpa using h)]; rfl
  · rw [if_neg h,List.filter_cons_of_neg (by simpa using h)]; simp
def eA (S:List Bool) (q:List Edg) (n m a:Nat):List Edg:=((List.range a).filter fun (a:Nat)=>hasM q ⟨(n:Int),(m:Int),(a:Int)⟩).map fun (a:Nat)=>(⟨((rk S n:Nat):Int),((rk S m:Nat):Int),(a:Int)⟩:Edg)
def eM (S:List Bool) (q:List Edg) (n m:Nat):List Edg:=(List.range m).flatMap fun m=>if S.getD m false=true then eA S q n m 12 else []
def eN (S:List Bool) (q:List Edg) (n:Nat):List Edg:=(List.range n).flatMap fun n=>if S.getD n false=true then eM S q n 240 else []
theorem eA_succ (S:List Bool) (q:List Edg) (n m a:Nat):eA S q n m (a+1)=if hasM q ⟨(n:Int),(m:Int),(a:Int)⟩=true then eA S q n m a++[⟨((rk S n:Nat):Int),((rk S m:Nat):Int),(a:Int)⟩] else eA S q n m a:=by
  unfold eA
  rw [List.range_succ,List.filter_append]
  by_cases h:hasM q ⟨(n:Int),(m:Int),(a:Int)⟩=true
  · rw [if_pos h,List.filter_cons_of_pos (by simpa using h),List.map_append]; rfl
  · rw [if_neg h,List.filter_cons_of_neg (by simpa using h)]; simp
theorem eM_succ (S:List Bool) (q:List Edg) (n m:Nat):eM S q n (m+1)=eM S q n m++(if S.getD m false=true then eA S q n m 12 else []):=by
  unfold eM; rw [List.range_succ,List.flatMap_append]; simp
theorem eN_succ (S:List Bool) (q:List Edg) (n:Nat):eN S q (n+1)=eN S q n++(if S.getD n false=true then eM S q n 240 else []):=by
  unfold eN; rw [List.range_succ,List.flatMap_append]; simp
theorem eA_len (S:List Bool) (q:List Edg) (n m a:Nat):(eA S q n m a).length≤a:=by
  unfold eA; rw [List.length_map]; exact Nat.le_trans (List.length_filter_le _ _) (by simp)
theorem eM_len (S:List Bool) (q:List Edg) (n:Nat):∀ m,(eM S q n m).length≤12*m
  | 0=>by simp [eM]
  | m+1=>by
    have:=eM_len S q n m
    have h2:=eA_len S q n m 12
    rw [eM_succ,List.length_append]
    split <;> simp <;> omega
theorem eN_len (S:List Bool) (q:List Edg):∀ n,(eN S q n).length≤2880*n
  | 0=>by simp [eN]
  | n+1=>by
    have:=eN_len S q n
    have h2:=eM_len S q n 240
    rw [eN_succ,List.length_append]
    split <;> simp <;> omega
end Go.D.StS
end
/- Chapter 22: the reference's extended graph aus a whole. -/
section
set_option linter.unusedVariables false
set_option linter.unusedSimpArgs false
namespace Go.D.StS
open Go.D.Srt
structure BY (S:List Bool) (n ix bx ax:DV) (nm:List Int) (ni:Nat) (is:List PV) (bas aus:List PV) (es:List Edg) (ex:DV) (σ:Qa):Prop where
  z:BZ S n ix ex bx ax nm σ
  oi:Out σ 4 1 ni is ix
  ob:Out σ 4 1 (rk S 240) bas bx
  oa:Out σ 4 1 (rk S 240) aus ax
  oe:Out σ 4 3 es.length (Ze es) ex
  i1:Apart ex ix
  i2:Apart ex bx
  i3:Apart ex ax
section
variable {o : OI} {q : OE} {S : List Bool} (hS : S.length = 240) {nm : List Int} (hnl : nm.length = 240) (hnm : ∀ j, j < 240 → S.getD j false = true → nm.getD j 0 = ((rk S j : Nat) : Int))
include hS hnl hnm
omit hS in
theorem bl_L4 (ho:∀ v∈L o,0≤v∧v<240∧SD S v=true) (hol:(L o).length≤1000) {n ex bx ax:DV} {bas aus:List PV}:∀ (d k:Nat) (ix:DV) (σ:Qa),240-k=d→k≤240→BZ S n ix ex bx ax nm σ→
    Out σ 4 1 (firF (L o) k).length (Qu (natI ((firF (L o) k).map (rk S)))) ix→Out σ 4 1 (rk S 240) bas bx→Out σ 4 1 (rk S 240) aus ax→Apart ix bx→Apart ix ax→
    ∃ ix' σ',f60_L4 Qb 0 (.p (eSl o)) (.p (eEs q)) (.ptr 0 0) (.rsl 1 1 0 240) (.ptr 2 0) (.rsl 3 1 0 240) (N k) σ=f60_L5 Qb 0 (.p (eEs q)) (.ptr 0 0) (.rsl 1 1 0 240) (.ptr 2 0) (.rsl 3 1 0 240) (N 0) σ'∧
      BZ S n ix' ex bx ax nm σ'∧Out σ' 4 1 (firF (L o) 240).length (Qu (natI ((firF (L o) 240).map (rk S)))) ix'∧Out σ' 4 1 (rk S 240) bas bx∧Out σ' 4 1 (rk S 240) aus ax∧Apart ix' bx∧Apart ix' ax
  | 0,k,ix,σ,hd,hk,h,hi,hb,ha,i1,i2=>by
    have e:k=240:=by omega
    subst e
    refine ⟨ix,σ,?_,h,hi,hb,ha,i1,i2⟩
    rw [f60_L4_eq Qb rfl]
    simp (disch:=omega) only [N,Ui,Qp,ltF,gG]
    rfl
  | d+1,k,ix,σ,hd,hk,h,hi,hb,ha,i1,i2=>by
    have hlt:((k:Nat):Int)<((240:Nat):Int):=by omega
    have h62:=S62 (o:=o) (v:=(k:Int)) (σ:=σ) hol
    simp only [pI] at h62
    cases hh:hasI (L o) (k:Int) with
    | false=>
      rw [hh] at h62
      have e1:firF (L o) (k+1)=firF (L o) k:=by rw [firF_succ,hh]; rfl
      obtain ⟨ix',σ',r1,r2⟩:=bl_L4 ho hol d (k+1) ix σ (by omega) (by omega) h (by rw [e1]; exact hi) hb ha i1 i2
      refine ⟨ix',σ',?_,r2⟩
      rw [←r1,f60_L4_eq Qb rfl]
      simp (disch:=omega) only [N,Ui,Qp,ltT hlt,gG,Qc,List.append_nil,h62,f60_J2_eq,add1]
    | true=>
      rw [hh] at h62
      have hmem:(k:Int)∈L o:=by
        unfold hasI at hh
        rw [List.any_eq_true] at hh
        obtain ⟨v,hv,e⟩:=hh
        rw [decide_eq_true_iff] at e
        rw [e]; exact hv
      have hsk:S.getD k false=true:=(ho _ hmem).2.2
      have e1:firF (L o) (k+1)=firF (L o) k++[k]:=by rw [firF_succ,hh]; rfl
      have ix3:indexAddr PP 22 (.rsl 3 1 0 240) (.p (.int .i64 (k:Nat)))=some (.ptr 3 k):=idx22a (i:=(k:Nat)) (by omega) (by omega)
      have ldn:=ldInt h.r3 (t:=k) (by omega)
      rw [hnm k (by omega) hsk] at ldn
      have hfl:(firF (L o) k).length≤240:=by
        unfold firF; exact Nat.le_trans (List.length_filter_le _ _) (by simp; omega)
      obtain ⟨ix2,σ1,p1,p2,p3,p4⟩:=Out.pushG (lo:=0) (vs:=[pI (rk S k:Nat)]) Uy u22 s3 VH Ur rfl (by decide) (by decide) (by decide) rfl hi (by omega) h.len (Nat.zero_le _)
      have h1:=h.oth hi p3
      have hb1:=Out.other hb p3 i1
      have ha1:=Out.other ha p3 i2
      have j1:Apart ix2 bx:=Apart.fresh i1 p4 hb
      have j2:Apart ix2 ax:=Apart.fresh i2 p4 ha
      have s1:=st5_1 h1.r2 (QQ p2).1 (QQ p2).2
      have w1:Qu (natI ((firF (L o) k).map (rk S)))++[pI (rk S k:Nat)]=Qu (natI ((firF (L o) (k+1)).map (rk S))):=by rw [e1]; simp [natI,Qu]
      have w2:(firF (L o) k).length+1=(firF (L o) (k+1)).length:=by rw [e1]; simp
      rw [w1,w2] at p2
      obtain ⟨ix',σ',r1,r2⟩:=bl_L4 ho hol d (k+1) ix2 _ (by omega) (by omega) (h1.set2 n ix2 ex bx ax) (Out.setLow p2 (by omega) _) (Out.setLow hb1 (by omega) _) (Out.setLow ha1 (by omega) _) j1 j2
      refine ⟨ix',σ',?_,r2⟩
      rw [←r1,f60_L4_eq Qb rfl]
      simp (disch:=omega) only [N,Ui,Qp,ltT hlt,gG,Qc,List.append_nil,h62,Wj,WA,Qe,Qf,Nat.zero_add,Nat.add_zero,Qc,List.append_nil,List.singleton_append,List.cons_append,List.nil_append,QH,Qd (off:=1) h.r2 (v:=ix) rfl,ix3,QJ,ldn,VI,p1,s1,f60_J2_eq,add1]
section
variable {n ix bx ax : DV} {ni : Nat} {is bas aus : List PV} (hql : (L q).length ≤ 10000)
omit hS hnl hnm in
theorem BY.push {es:List Edg} {ex:DV} {σ:Qa} (h:BY S n ix bx ax nm ni is bas aus es ex σ) (hn:es.length≤1000000) (v:Edg) :
    ∃ ex' σ1,append PP 0 false 23 23 ex (.p (.sl true 1 (eEdg v))) σ=some (ex',σ1)∧store PP 0 23 (.ptr 2 2) ex' σ1=some (σ1.set 2 (.mix [n,ix,ex',bx,ax]))∧BY S n ix bx ax nm ni is bas aus (es++[v]) ex' (σ1.set 2 (.mix [n,ix,ex',bx,ax])):=by
  obtain ⟨ex2,σ1,p1,p2,p3,p4⟩:=Out.pushG (lo:=0) (vs:=eEdg v) src23 u23 s69 bytes69 UA rfl (by decide) (by decide) (by decide) rfl h.oe (by omega) h.z.len (Nat.zero_le _)
  have h1:=h.z.oth h.oe p3
  have s1:=st5_2 h1.r2 (QQ p2).1 (QQ p2).2
  rw [eEdgs_snoc,show es.length+1=(es++[v]).length by simp] at p2
  exact ⟨ex2,σ1,p1,s1,h1.set2 n ix ex2 bx ax,Out.setLow (Out.other h.oi p3 h.i1) (by omega) _,Out.setLow (Out.other h.ob p3 h.i2) (by omega) _,Out.setLow (Out.other h.oa p3 h.i3) (by omega) _,Out.setLow p2 (by omega) _,Apart.fresh h.i1 p4 h.oi,Apart.fresh h.i2 p4 h.ob,Apart.fresh h.i3 p4 h.oa⟩
include hql
theorem bl_L7 {k m:Nat} (hk:k<240) (hm:m<240) (hsk:S.getD k false=true) (hsm:S.getD m false=true) {E0:List Edg} (hE:E0.length≤700000):∀ (d a:Nat) (ex:DV) (σ:Qa),12-a=d→a≤12→BY S n ix bx ax nm ni is bas aus (E0++eA S (L q) k m a) ex σ→
    ∃ ex' σ',f60_L7 Qb 0 (.p (eEs q)) (.ptr 0 0) (.rsl 1 1 0 240) (.ptr 2 0) (.rsl 3 1 0 240) (N k) (N m) (N a) σ=f60_L6 Qb 0 (.p (eEs q)) (.ptr 0 0) (.rsl 1 1 0 240) (.ptr 2 0) (.rsl 3 1 0 240) (N k) (N (m+1)) σ'∧BY S n ix bx ax nm ni is bas aus (E0++eA S (L q) k m 12) ex' σ'
  | 0,a,ex,σ,hd,ha,h=>by
    have e:a=12:=by omega
    subst e
    refine ⟨ex,σ,?_,h⟩
    rw [f60_L7_eq Qb rfl]
    simp (disch:=omega) only [N,Qp,ltF,gG,add1]
  | d+1,a,ex,σ,hd,ha,h=>by
    have hlt:((a:Nat):Int)<12:=by omega
    have ixm:indexAddr PP 81 (.rsl 1 1 0 240) (.p (.int .i64 (m:Nat)))=some (.ptr 1 m):=Jb (i:=(m:Nat)) (by omega) (by omega)
    have lbm:=UJ h.z.r1 (t:=m) (by omega)
    rw [hsm] at lbm
    have h94:=S94 (q:=q) (e:=⟨(k:Int),(m:Int),(a:Int)⟩) (σ:=σ) hql
    have bld:build PP 109 [(0,.p (.int .i64 (k:Nat))),(1,.p (.int .i64 (m:Nat))),(2,.p (.int .i64 (a:Nat)))]=some (.agg (edgD ⟨(k:Int),(m:Int),(a:Int)⟩)):=Eq.trans (by kernel_rfl) rfl
    have ixk3:indexAddr PP 22 (.rsl 3 1 0 240) (.p (.int .i64 (k:Nat)))=some (.ptr 3 k):=idx22a (i:=(k:Nat)) (by omega) (by omega)
    have ixm3:indexAddr PP 22 (.rsl 3 1 0 240) (.p (.int .i64 (m:Nat)))=some (.ptr 3 m):=idx22a (i:=(m:Nat)) (by omega) (by omega)
    have ldk:=ldInt h.z.r3 (t:=k) (by omega)
    rw [hnm k hk hsk] at ldk
    have ldm:=ldInt h.z.r3 (t:=m) (by omega)
    rw [hnm m hm hsm] at ldm
    have hal:=eA_len S (L q) k m a
    cases hh:hasM (L q) ⟨(k:Int),(m:Int),(a:Int)⟩ with
    | false=>
      rw [hh] at h94
      obtain ⟨ex',σ',r1,r2⟩:=bl_L7 hk hm hsk hsm hE d (a+1) ex σ (by omega) (by omega) (by rw [eA_succ,hh]; exact h)
      refine ⟨ex',σ',?_,r2⟩
      rw [←r1,f60_L7_eq Qb rfl]
      simp (disch:=omega) only [N,Qp,ltT hlt,gG,ixm,UG,lbm,bld,Qc,List.append_nil,h94,f60_J3_eq,add1]
    | true=>
      rw [hh] at h94
      obtain ⟨ex2,σ1,p1,p2,p3⟩:=BY.push h (by rw [List.length_append]; omega) ⟨((rk S k:Nat):Int),((rk S m:Nat):Int),(a:Int)⟩
      obtain ⟨ex',σ',r1,r2⟩:=bl_L7 hk hm hsk hsm hE d (a+1) ex2 _ (by omega) (by omega) (by rw [eA_succ,hh,if_pos rfl,←List.append_assoc]; exact p3)
      refine ⟨ex',σ',?_,r2⟩
      rw [←r1,f60_L7_eq Qb rfl]
      simp (disch:=omega) only [N,Qp,ltT hlt,gG,ixm,UG,lbm,bld,Qc,List.append_nil,h94,Wj,Zj,Qe,Qf,Nat.zero_add,Nat.add_zero,Qc,List.append_nil,List.singleton_append,List.cons_append,List.nil_append,Zh,Qd (off:=2) h.z.r2 (v:=ex) rfl,ixk3,ixm3,QJ,ldk,ldm,bld69,bs23_1,p1,p2,f60_J3_eq,add1]
theorem bl_L6 {k:Nat} (hk:k<240) (hsk:S.getD k false=true) {E0:List Edg} (hE:E0.length≤695000):∀ (d m:Nat) (ex:DV) (σ:Qa),240-m=d→m≤240→BY S n ix bx ax nm ni is bas aus (E0++eM S (L q) k m) ex σ→
    ∃ ex' σ',f60_L6 Qb 0 (.p (eEs q)) (.ptr 0 0) (.rsl 1 1 0 240) (.ptr 2 0) (.rsl 3 1 0 240) (N k) (N m) σ=f60_L5 Qb 0 (.p (eEs q)) (.ptr 0 0) (.rsl 1 1 0 240) (.ptr 2 0) (.rsl 3 1 0 240) (N (k+1)) σ'∧BY S n ix bx ax nm ni is bas aus (E0++eM S (L q) k 240) ex' σ'
  | 0,m,ex,σ,hd,hm,h=>by
    have e:m=240:=by omega
    subst e
    refine ⟨ex,σ,?_,h⟩
    have hnl:¬ (((240:Nat):Int)<((240:Nat):Int)):=by omega
    rw [f60_L6_eq Qb rfl]
    simp (disch:=omega) only [N,Ui,Qp,ltF hnl,gG,add1]
  | d+1,m,ex,σ,hd,hm,h=>by
    have hlt:((m:Nat):Int)<((240:Nat):Int):=by omega
    have ixk:indexAddr PP 81 (.rsl 1 1 0 240) (.p (.int .i64 (k:Nat)))=some (.ptr 1 k):=Jb (i:=(k:Nat)) (by omega) (by omega)
    have ixm:indexAddr PP 81 (.rsl 1 1 0 240) (.p (.int .i64 (m:Nat)))=some (.ptr 1 m):=Jb (i:=(m:Nat)) (by omega) (by omega)
    have lbk:=UJ h.z.r1 (t:=k) (by omega)
    rw [hsk] at lbk
    have lbm:=UJ h.z.r1 (t:=m) (by omega)
    have hml:=eM_len S (L q) k m
    cases hsm:S.getD m false with
    | false=>
      rw [hsm] at lbm
      obtain ⟨ex',σ',r1,r2⟩:=bl_L6 hk hsk hE d (m+1) ex σ (by omega) (by omega) (by rw [eM_succ,hsm]; simpa using h)
      refine ⟨ex',σ',?_,r2⟩
      have h012:(0:Int)<12:=by decide
      rw [←r1,f60_L6_eq Qb rfl]
      simp (disch:=omega) only [N,Ui,Qp,ltT hlt,gG,ixk,UG,lbk]
      rw [f60_L7_eq Qb rfl]
      simp (disch:=omega) only [N,Qp,ltT h012,gG,ixm,UG,lbm,add1]
    | true=>
      obtain ⟨ex2,σ1,p1,p2⟩:=bl_L7 hS hnl hnm hql hk (show m<240 by omega) hsk hsm (E0:=E0++eM S (L q) k m) (by rw [List.length_append]; omega) _ 0 ex σ rfl (Nat.zero_le _) (by simpa [eA] using h)
      obtain ⟨ex',σ',r1,r2⟩:=bl_L6 hk hsk hE d (m+1) ex2 σ1 (by omega) (by omega) (by rw [eM_succ,hsm,if_pos rfl,←List.append_assoc]; exact p2)
      refine ⟨ex',σ',?_,r2⟩
      rw [←r1,←p1,f60_L6_eq Qb rfl]
      simp (disch:=omega) only [N,Ui,Qp,ltT hlt,gG,ixk,UG,lbk]
      rfl
theorem bl_L5:∀ (d k:Nat) (ex:DV) (σ:Qa),240-k=d→k≤240→BY S n ix bx ax nm ni is bas aus (eN S (L q) k) ex σ→
    ∃ ex' σ',f60_L5 Qb 0 (.p (eEs q)) (.ptr 0 0) (.rsl 1 1 0 240) (.ptr 2 0) (.rsl 3 1 0 240) (N k) σ=f60_L5 Qb 0 (.p (eEs q)) (.ptr 0 0) (.rsl 1 1 0 240) (.ptr 2 0) (.rsl 3 1 0 240) (N 240) σ'∧BY S n ix bx ax nm ni is bas aus (eN S (L q) 240) ex' σ'
  | 0,k,ex,σ,hd,hk,h=>by
    have e:k=240:=by omega
    subst e
    exact ⟨ex,σ,rfl,h⟩
  | d+1,k,ex,σ,hd,hk,h=>by
    have hlt:((k:Nat):Int)<((240:Nat):Int):=by omega
    have h0:((0:Nat):Int)<((240:Nat):Int):=by decide
    have ixk:indexAddr PP 81 (.rsl 1 1 0 240) (.p (.int .i64 (k:Nat)))=some (.ptr 1 k):=Jb (i:=(k:Nat)) (by omega) (by omega)
    have lbk:=UJ h.z.r1 (t:=k) (by omega)
    have hel:=eN_len S (L q) k
    cases hsk:S.getD k false with
    | false=>
      rw [hsk] at lbk
      obtain ⟨ex',σ',r1,r2⟩:=bl_L5 d (k+1) ex σ (by omega) (by omega) (by rw [eN_succ,hsk]; simpa using h)
      refine ⟨ex',σ',?_,r2⟩
      rw [←r1,f60_L5_eq Qb rfl]
      simp (disch:=omega) only [N,Ui,Qp,ltT hlt,gG]
      rw [f60_L6_eq Qb rfl]
      have e0:(DV.p (.int .i64 0))=.p (.int .i64 ((0:Nat):Int)):=rfl
      simp (disch:=omega) only [e0,Ui,Qp,ltT h0,gG,ixk,UG,lbk,add1]
    | true=>
      obtain ⟨ex2,σ1,p1,p2⟩:=bl_L6 hS hnl hnm hql (show k<240 by omega) hsk (E0:=eN S (L q) k) (by omega) _ 0 ex σ rfl (Nat.zero_le _) (by simpa [eM] using h)
      obtain ⟨ex',σ',r1,r2⟩:=bl_L5 d (k+1) ex2 σ1 (by omega) (by omega) (by rw [eN_succ,hsk,if_pos rfl]; exact p2)
      refine ⟨ex',σ',?_,r2⟩
      rw [←r1,←p1,f60_L5_eq Qb rfl]
      simp (disch:=omega) only [N,Ui,Qp,ltT hlt,gG]
      rfl
end
end
def refX (S:List Bool) (l:List Int) (q:List Edg):Ax:=⟨⟨(rk S 240:Nat),oI (natI ((firF l 240).map (rk S))),oE (eN S q 240)⟩,oI (natI ((ZS S 240).map (· / 8))),oI (natI ((ZS S 240).map (· % 8)))⟩
theorem thaw_oE {σ σ':Qa} {lo:Nat} {l:List Edg} {y:DV} (m:Nat) (h:Out σ lo 3 l.length (Ze l) y):thaw m σ' y=some (.p (eEs (oE l))):=by
  have h2:=Out.tw h m
  rw [oE_val] at h2
  rcases h.2 with ⟨_,rfl⟩ | ⟨_,r,ver,rfl,_,_⟩
  · exact h2
  · exact h2
theorem S60 {o:OI} {q:OE} (hk:MvOk (L o) (L q)):∃ S,S.length=240∧(∀ v,0≤v→v<240→(SD S v=true↔RchB (L o) (L q) v))∧∀ σ,Qx CC 60 [.p (eSl o),.p (eEs q)] σ=some (.agg (eAx (refX S (L o) (L q)))):=by
  obtain ⟨S,hS,hs,hF⟩:=bl_seen hk
  refine ⟨S,hS,hs,fun σ=>?_⟩
  have z0:BZ S (.p (.int .i64 (rk S 0:Nat))) (.p .nilsl) (.p .nilsl) (.p .nilsl) (.p .nilsl) (List.replicate 240 0) (st2 S++[.mix Z5,.arr (Qu (List.replicate 240 0))]):=⟨rfl,rfl,rfl,rfl⟩
  obtain ⟨bx,ax,nm,σ1,a1,a2,a3,a4,a5,a6,a7⟩:=bl_L3 (o:=o) (q:=q) hS _ 0 (.p .nilsl) (.p .nilsl) _ _ rfl (Nat.zero_le _) z0 (List.length_replicate) (fun j hj=>by omega) Out.zero Out.zero (Apart.nil _)
  have ho:∀ v∈L o,0≤v∧v<240∧SD S v=true:=fun v hv=>⟨(hk.f v hv).1,(hk.f v hv).2,(hs v (hk.f v hv).1 (hk.f v hv).2).2 (.init hv)⟩
  obtain ⟨ix,σ2,b1,b2,b3,b4,b5,b6,b7⟩:=bl_L4 (q:=q) a3 a4 ho hk.ll _ 0 (.p .nilsl) σ1 rfl (Nat.zero_le _) a2 Out.zero a5 a6 (Apart.nil _) (Apart.nil _)
  obtain ⟨ex,σ3,c1,c2⟩:=bl_L5 hS a3 a4 hk.ql _ 0 (.p .nilsl) σ2 rfl (Nat.zero_le _) ⟨b2,b3,b4,b5,Out.zero,Apart.nil _,Apart.nil _,Apart.nil _⟩
  have hone:([.p (.int .i64 (rk S 240:Nat)),ix,ex,bx,ax]:List DV).all DV.one=true:=by
    simp [(QQ c2.oi).1,(QQ c2.oe).1,(QQ c2.ob).1,(QQ c2.oa).1]
    rfl
  have hld:load PP 33 (.ptr 2 0) σ3=some (.agg [.p (.int .i64 (rk S 240:Nat)),ix,ex,bx,ax]):=by
    rw [load33,QK (vs:=[.p (.int .i64 (rk S 240:Nat)),ix,ex,bx,ax]) c2.z.r2 rfl (by simp)]; rfl
  have hst:=st33 (c:=[.p (.int .i64 (rk S 240:Nat)),ix,ex,bx,ax]) c2.z.r0 rfl rfl hone
  have hg0:(σ3.set 0 (.mix [.p (.int .i64 (rk S 240:Nat)),ix,ex,bx,ax]))[0]?=some (.mix [.p (.int .i64 (rk S 240:Nat)),ix,ex,bx,ax]):=by rw [List.getElem?_set_self (QW c2.z.r0)]
  have hcv:Vt PP 33 (.ptr 0 0) (σ3.set 0 (.mix [.p (.int .i64 (rk S 240:Nat)),ix,ex,bx,ax]))=some (.agg [.p (.int .i64 (rk S 240:Nat)),ix,ex,bx,ax]):=by
    rw [Ww,load33,QK (vs:=[.p (.int .i64 (rk S 240:Nat)),ix,ex,bx,ax]) hg0 rfl (by simp)]; rfl
  have hnl:¬ (((240:Nat):Int)<((240:Nat):Int)):=by omega
  refine Qn (by simp [Zg,es_view]) rfl (F60_call (r:=(.agg [.p (.int .i64 (rk S 240:Nat)),ix,ex,bx,ax],σ3.set 0 (.mix [.p (.int .i64 (rk S 240:Nat)),ix,ex,bx,ax]))) ?_) ?_
  · rw [hF]
    refine a1.trans (b1.trans (c1.trans ?_))
    rw [f60_L5_eq Qb rfl]
    simp only [N,Ui,Qp,ltF hnl,gG,hld,hst,hcv]
  · have t1:=thaw_oI (σ':=σ3.set 0 (.mix [.p (.int .i64 (rk S 240:Nat)),ix,ex,bx,ax])) (l:=natI ((firF (L o) 240).map (rk S))) 0 (by rw [show (natI ((firF (L o) 240).map (rk S))).length=(firF (L o) 240).length by simp [natI]]; exact c2.oi)
    have t2:=thaw_oI (σ':=σ3.set 0 (.mix [.p (.int .i64 (rk S 240:Nat)),ix,ex,bx,ax])) (l:=natI ((ZS S 240).map (· / 8))) 0 (by rw [show (natI ((ZS S 240).map (· / 8))).length=rk S 240 by simp [natI,rk]]; exact c2.ob)
    have t3:=thaw_oI (σ':=σ3.set 0 (.mix [.p (.int .i64 (rk S 240:Nat)),ix,ex,bx,ax])) (l:=natI ((ZS S 240).map (· % 8))) 0 (by rw [show (natI ((ZS S 240).map (· % 8))).length=rk S 240 by simp [natI,rk]]; exact c2.oa)
    have t4:=thaw_oE (σ':=σ3.set 0 (.mix [.p (.int .i64 (rk S 240:Nat)),ix,ex,bx,ax])) 0 c2.oe
    have ta:∀ (σ:Qa) (cs:List DV),Zf 0 σ (.agg cs)=(mapO (thaw 0 σ) cs).map .agg:=fun σ cs=>rfl
    rw [ta]
    simp only [mapO,tw_int,t1,t2,t3,t4,Option.map_some]
    rfl
end Go.D.StS
end
/- Chapter 22: the program's extended graph and the reference's are the same, in plain terms. -/
section
set_option linter.unusedVariables false
set_option linter.unusedSimpArgs false
namespace Go.D.StS
open Go.D.Srt
def pr (x:E):Int:=x.1*8+x.2
def pN (x:E):Nat:=(pr x).toNat
theorem pr_inj {x y:E} (hx:0≤x.2∧x.2≤7) (hy:0≤y.2∧y.2≤7) (h:pr x=pr y):x=y:=by
  unfold pr at h
  exact Prod.ext (by omega) (by omega)
theorem asc_ext {l1 l2:List Nat} (h1:l1.Pairwise (· < ·)) (h2:l2.Pairwise (· < ·)) (h:∀ n,n∈l1↔n∈l2):l1=l2:=by
  have n1:l1.Nodup:=h1.imp fun {a b} h e=>by omega
  have n2:l2.Nodup:=h2.imp fun {a b} h e=>by omega
  exact List.Perm.eq_of_pairwise (fun a b _ _ h3 h4=>by omega) h1 h2 ((List.perm_ext_iff_of_nodup n1 n2).2 h)
theorem groM_sound {M:E→OE} {R:E→Prop} (hR:∀ x,R x→∀ e∈L (M x),R (toE e)):∀ (d i:Nat) (A:List E),(∀ x∈A,R x)→∀ x∈groM M d i A,R x
  | 0,i,A,h,x,hx=>h x hx
  | d+1,i,A,h,x,hx=>by
    unfold groM at hx
    by_cases hlt:i<A.length
    · rw [if_pos hlt] at hx
      refine groM_sound hR d (i+1) _ (fun y hy=>?_) x hx
      rcases (WH _ _ _).1 hy with h1 | h1
      · exact h y h1
      · rw [List.mem_map] at h1
        obtain ⟨e,he,rfl⟩:=h1
        exact hR _ (h _ (by rw [ZA hlt]; exact List.getElem_mem hlt)) e he
    · rw [if_neg hlt] at hx
      exact h x hx
structure RefOk (n:Int) (M:E→OE) (l:List E) (l0:List Int) (q0:List Edg):Prop where
  f:∀ v,v∈l0↔∃ x∈l,v=pr x
  m:∀ x,InS n x→∀ m a,(⟨pr x,m,a⟩:Edg)∈q0↔∃ e∈L (M x),m=pr (toE e)∧a=e.a
  s:∀ e∈q0,∃ x,InS n x∧e.f=pr x
theorem mem_seenR {S:List Bool} {k n:Nat}:n∈ZS S k↔n<k∧S.getD n false=true:=by
  unfold ZS; rw [List.mem_filter,List.mem_range]
theorem seenR_asc (S:List Bool) (k:Nat):(ZS S k).Pairwise (· < ·):=List.pairwise_lt_range.filter _
theorem seenR_pre (S:List Bool) {a b:Nat} (h:a≤b):ZS S a <+: ZS S b:=by
  induction b with
  | zero=>
    have h0:a=0:=by omega
    subst h0; exact List.prefix_refl _
  | succ b ih=>
    by_cases e:a=b+1
    · subst e; exact List.prefix_refl _
    · have h1:=ih (by omega)
      rw [seenR_succ]
      split
      · exact h1.trans (List.prefix_append _ _)
      · exact h1
theorem seenR_at {S:List Bool} {k n:Nat} (hn:n<k) (hs:S.getD n false=true):∃ h:rk S n<(ZS S k).length,(ZS S k)[rk S n]=n:=by
  have hp:=seenR_pre S (show n+1≤k by omega)
  rw [seenR_succ,if_pos hs] at hp
  obtain ⟨t,ht⟩:=hp
  have hlen:rk S n<(ZS S k).length:=by rw [←ht]; simp [rk]
  refine ⟨hlen,?_⟩
  have:(ZS S n++[n]++t)[rk S n]?=some n:=by
    rw [List.append_assoc,List.getElem?_append_right (by unfold rk; exact Nat.le_refl _)]
    simp [rk]
  rw [ht] at this
  rw [List.getElem?_eq_getElem hlen] at this
  exact Option.some.inj this
theorem rk_mono {S:List Bool} {a b:Nat} (h:a<b) (hs:S.getD a false=true):rk S a<rk S b:=by
  have hp:=seenR_pre S (show a+1≤b by omega)
  rw [seenR_succ,if_pos hs] at hp
  have:=hp.length_le
  rw [List.length_append] at this
  unfold rk
  simp only [List.length_cons,List.length_nil] at this
  omega
theorem hasM_iff {q:List Edg} {e:Edg}:hasM q e=true↔e∈q:=by
  unfold hasM
  rw [List.any_eq_true]
  constructor
  · rintro ⟨x,hx,h⟩
    rw [decide_eq_true_iff] at h
    exact h ▸ hx
  · exact fun h=>⟨e,h,decide_eq_true rfl⟩
theorem mem_eN {S:List Bool} {q:List Edg} {e:Edg}:e∈eN S q 240↔∃ n m a:Nat,n<240∧m<240∧a<12∧S.getD n false=true∧S.getD m false=true∧(⟨(n:Int),(m:Int),(a:Int)⟩:Edg)∈q∧e=⟨((rk S n:Nat):Int),((rk S m:Nat):Int),(a:Int)⟩:=by
  unfold eN
  rw [List.mem_flatMap]
  constructor
  · rintro ⟨n,hn,h⟩
    rw [List.mem_range] at hn
    by_cases hs:S.getD n false=true
    · rw [if_pos hs] at h
      unfold eM at h
      rw [List.mem_flatMap] at h
      obtain ⟨m,hm,h⟩:=h
      rw [List.mem_range] at hm
      by_cases hs2:S.getD m false=true
      · rw [if_pos hs2] at h
        unfold eA at h
        rw [List.mem_map] at h
        obtain ⟨a,ha,rfl⟩:=h
        rw [List.mem_filter,List.mem_range,hasM_iff] at ha
        exact ⟨n,m,a,hn,hm,ha.1,hs,hs2,ha.2,rfl⟩
      · rw [if_neg hs2] at h; exact absurd h (by simp)
    · rw [if_neg hs] at h; exact absurd h (by simp)
  · rintro ⟨n,m,a,hn,hm,ha,hs,hs2,hq,rfl⟩
    refine ⟨n,List.mem_range.2 hn,?_⟩
    rw [if_pos hs]
    unfold eM
    rw [List.mem_flatMap]
    refine ⟨m,List.mem_range.2 hm,?_⟩
    rw [if_pos hs2]
    unfold eA
    rw [List.mem_map]
    exact ⟨a,by rw [List.mem_filter,List.mem_range,hasM_iff]; exact ⟨ha,hq⟩,rfl⟩
theorem eN_asc (S:List Bool) (q:List Edg):(eN S q 240).Pairwise fun x y=>ordE x y<0:=by
  have inA:∀ {n m:Nat} {x:Edg},x∈(if S.getD m false=true then eA S q n m 12 else [])→S.getD m false=true∧∃ a:Nat,x=⟨((rk S n:Nat):Int),((rk S m:Nat):Int),(a:Int)⟩:=fun {n m x} h=>by
    by_cases hs2:S.getD m false=true
    · rw [if_pos hs2] at h
      unfold eA at h
      rw [List.mem_map] at h
      obtain ⟨a,ha,rfl⟩:=h
      exact ⟨hs2,a,rfl⟩
    · rw [if_neg hs2] at h; exact absurd h (by simp)
  have inM:∀ {n:Nat} {x:Edg},x∈(if S.getD n false=true then eM S q n 240 else [])→S.getD n false=true∧x.f=((rk S n:Nat):Int):=fun {n x} h=>by
    by_cases hs:S.getD n false=true
    · rw [if_pos hs] at h
      unfold eM at h
      rw [List.mem_flatMap] at h
      obtain ⟨m,hm,h⟩:=h
      obtain ⟨_,a,rfl⟩:=inA h
      exact ⟨hs,rfl⟩
    · rw [if_neg hs] at h; exact absurd h (by simp)
  unfold eN
  rw [List.pairwise_flatMap]
  refine ⟨fun n hn=>?_,List.pairwise_lt_range.imp fun {n n'} hlt x hx y hy=>?_⟩
  · by_cases hs:S.getD n false=true
    · rw [if_pos hs]
      unfold eM
      rw [List.pairwise_flatMap]
      refine ⟨fun m hm=>?_,List.pairwise_lt_range.imp fun {m m'} hlt x hx y hy=>?_⟩
      · by_cases hs2:S.getD m false=true
        · rw [if_pos hs2]
          unfold eA
          rw [List.pairwise_map]
          refine (List.pairwise_lt_range.filter _).imp fun {a b} hlt=>?_
          rw [StT.ordE_lt]
          refine .inr ⟨rfl,.inr ⟨rfl,?_⟩⟩
          simp only
          omega
        · rw [if_neg hs2]; exact List.Pairwise.nil
      · obtain ⟨h1,a,rfl⟩:=inA hx
        obtain ⟨h2,b,rfl⟩:=inA hy
        have:=rk_mono hlt h1
        rw [StT.ordE_lt]
        refine .inr ⟨rfl,.inl ?_⟩
        simp only
        omega
    · rw [if_neg hs]; exact List.Pairwise.nil
  · obtain ⟨h1,h2⟩:=inM hx
    obtain ⟨h3,h4⟩:=inM hy
    have:=rk_mono hlt h1
    rw [StT.ordE_lt,h2,h4]
    omega
theorem ordE_ext {l1 l2:List Edg} (h1:l1.Pairwise fun x y=>ordE x y<0) (h2:l2.Pairwise fun x y=>ordE x y<0) (h:∀ e,e∈l1↔e∈l2):l1=l2:=by
  have nd:∀ {l:List Edg},l.Pairwise (fun x y=>ordE x y<0)→l.Nodup:=fun {l} hl=>by
    rw [List.nodup_iff_pairwise_ne]
    exact hl.imp fun {x y} h e=>by subst e; exact StT.ord_irr x h
  exact List.Perm.eq_of_pairwise (fun a b _ _ h3 h4=>by rw [StT.ordE_lt] at h3 h4; omega) h1 h2 ((List.perm_ext_iff_of_nodup (nd h1) (nd h2)).2 h)
section
variable {n : Int} {M : E → OE} {l B : List E} {E' : List Edg} {l0 : List Int} {q0 : List Edg} {S : List Bool}
variable (hn:n≤30) (hx:ExtG n M l B E') (hr:RefOk n M l l0 q0) (hS:∀ v,0≤v→v<240→(SD S v=true↔RchB l0 q0 v)) (hl:Asc l) (ha:∀ x∈B,∀ e∈L (M x),0≤e.a∧e.a≤11)
include hx hr
theorem rch_iff (v:Int):RchB l0 q0 v↔∃ x∈B,v=pr x:=by
  constructor
  · intro h
    induction h with
    | init hv=>
      obtain ⟨x,hxl,rfl⟩:=(hr.f _).1 hv
      exact ⟨x,hx.beg x hxl,rfl⟩
    | @step e _ he ih=>
      obtain ⟨x,hxB,hf⟩:=ih
      have:e=⟨pr x,e.t,e.a⟩:=by rw [←hf]
      rw [this] at he
      obtain ⟨e',he',h1,_⟩:=(hr.m x (hx.ins x hxB) e.t e.a).1 he
      exact ⟨toE e',hx.cl x hxB e' he',h1⟩
  · rintro ⟨x,hxB,rfl⟩
    have h1:=groM_sound (M:=M) (R:=fun x=>x∈B∧RchB l0 q0 (pr x)) (fun y hy e he=>by
      have h1:(⟨pr y,pr (toE e),e.a⟩:Edg)∈q0:=(hr.m y (hx.ins y hy.1) _ _).2 ⟨e,he,rfl,rfl⟩
      exact ⟨hx.cl y hy.1 e he,.step (e:=⟨pr y,pr (toE e),e.a⟩) hy.2 h1⟩) 64 0 (Zk [] l) (fun y hy=>by
      rcases (WH _ _ _).1 hy with h1 | h1
      · exact absurd h1 (by simp)
      · exact ⟨hx.beg y h1,.init ((hr.f _).2 ⟨y,h1,rfl⟩)⟩)
    exact (h1 x (hx.pb.mem_iff.1 hxB)).2
include hn in
omit hr in
theorem Ud {x:E} (hxB:x∈B):0≤pr x∧pr x<240∧((pN x:Nat):Int)=pr x:=by
  have:=hx.ins x hxB
  unfold InS at this
  unfold pN pr
  omega
include hn hS
theorem pN_seen {x:E} (hxB:x∈B):pN x<240∧S.getD (pN x) false=true:=by
  obtain ⟨h1,h2,h3⟩:=Ud hn hx hxB
  exact ⟨by omega,(hS (pr x) h1 h2).2 ((rch_iff hx hr _).2 ⟨x,hxB,rfl⟩)⟩
theorem seen_eq:ZS S 240=B.map pN:=by
  refine asc_ext (seenR_asc S 240) ?_ fun k=>?_
  · rw [List.pairwise_map]
    refine List.Pairwise.imp_of_mem (fun {x y} hxB hyB hlt=>?_) hx.asc
    have h1:=Ud hn hx hxB
    have h2:=Ud hn hx hyB
    have a:=hx.ins x hxB
    have b:=hx.ins y hyB
    unfold InS at a b
    unfold ltB at hlt
    unfold pr at h1 h2
    omega
  · rw [mem_seenR,List.mem_map]
    constructor
    · rintro ⟨hk,hs⟩
      have h1:=(hS (k:Int) (by omega) (by omega)).1 (by unfold SD; simpa using hs)
      obtain ⟨x,hxB,e⟩:=(rch_iff hx hr _).1 h1
      have:=Ud hn hx hxB
      exact ⟨x,hxB,by omega⟩
    · rintro ⟨x,hxB,rfl⟩
      exact pN_seen hn hx hr hS hxB
theorem rk_eq {x:E} (hxB:x∈B):rk S (pN x)=B.idxOf x:=by
  obtain ⟨h1,h2⟩:=pN_seen hn hx hr hS hxB
  obtain ⟨h3,h4⟩:=seenR_at h1 h2
  have e:=seen_eq hn hx hr hS
  have h5:rk S (pN x)<B.length:=by rw [e,List.length_map] at h3; exact h3
  have h6:pN B[rk S (pN x)]=pN x:=by
    have:(B.map pN)[rk S (pN x)]?=some (pN x):=by rw [←e,List.getElem?_eq_getElem h3,h4]
    rw [List.getElem?_map,List.getElem?_eq_getElem h5] at this
    exact Option.some.inj this
  have m1:=Ud hn hx (List.getElem_mem h5)
  have m2:=Ud hn hx hxB
  have i1:=hx.ins _ (List.getElem_mem h5)
  have i2:=hx.ins x hxB
  have h7:B[rk S (pN x)]=x:=pr_inj i1.2 i2.2 (by omega)
  obtain ⟨k1,k2⟩:=ZR hxB
  rw [ZA k1] at k2
  exact (List.getElem_inj (asc_nodup hx.asc)).1 (h7.trans k2.symm)
theorem rk_all:rk S 240=B.length:=by
  unfold rk
  rw [seen_eq hn hx hr hS,List.length_map]
include hl ha in
theorem ref_eq:refX S l0 q0=mkX B (nums B l) E':=by
  have e1:=seen_eq hn hx hr hS
  have e2:=rk_all hn hx hr hS
  have hf:firF l0 240=l.map pN:=by
    refine asc_ext (List.pairwise_lt_range.filter _) ?_ fun k=>?_
    · rw [List.pairwise_map]
      refine List.Pairwise.imp_of_mem (fun {x y} hxl hyl hlt=>?_) hl
      have h1:=Ud hn hx (hx.beg x hxl)
      have h2:=Ud hn hx (hx.beg y hyl)
      have a:=hx.ins x (hx.beg x hxl)
      have b:=hx.ins y (hx.beg y hyl)
      unfold InS at a b
      unfold ltB at hlt
      unfold pr at h1 h2
      omega
    · unfold firF
      rw [List.mem_filter,List.mem_range,List.mem_map]
      unfold hasI
      rw [List.any_eq_true]
      constructor
      · rintro ⟨hk,v,hv,e⟩
        rw [decide_eq_true_iff] at e
        rw [←e] at hv
        obtain ⟨x,hxl,e3⟩:=(hr.f _).1 hv
        have:=Ud hn hx (hx.beg x hxl)
        exact ⟨x,hxl,by omega⟩
      · rintro ⟨x,hxl,rfl⟩
        have:=Ud hn hx (hx.beg x hxl)
        exact ⟨by omega,pr x,(hr.f _).2 ⟨x,hxl,rfl⟩,by rw [decide_eq_true_iff]; exact this.2.2⟩
  have e3:(l.map pN).map (rk S)=l.map fun x=>B.idxOf x:=by
    rw [List.map_map]
    exact List.map_congr_left fun x hxl=>rk_eq hn hx hr hS (hx.beg x hxl)
  have e4:natI ((firF l0 240).map (rk S))=nums B l:=by
    rw [hf,e3]
    unfold natI nums
    rw [List.map_map]
    rfl
  have e5:natI ((ZS S 240).map (· / 8))=B.map Prod.fst:=by
    rw [e1,List.map_map]
    unfold natI
    rw [List.map_map]
    refine List.map_congr_left fun x hxB=>?_
    have h1:=Ud hn hx hxB
    have a:=hx.ins x hxB
    unfold InS at a
    unfold pr at h1
    show ((pN x / 8:Nat):Int)=x.1
    omega
  have e6:natI ((ZS S 240).map (· % 8))=B.map Prod.snd:=by
    rw [e1,List.map_map]
    unfold natI
    rw [List.map_map]
    refine List.map_congr_left fun x hxB=>?_
    have h1:=Ud hn hx hxB
    have a:=hx.ins x hxB
    unfold InS at a
    unfold pr at h1
    show ((pN x % 8:Nat):Int)=x.2
    omega
  have e7:eN S q0 240=E':=by
    refine ordE_ext (eN_asc S q0) hx.po fun e=>?_
    rw [mem_eN]
    constructor
    · rintro ⟨k,m,a,hk,hm,ha2,hs,hs2,hq,rfl⟩
      obtain ⟨x,hi,hfx⟩:=hr.s _ hq
      have r1:=(hS (k:Int) (by omega) (by omega)).1 (by unfold SD; simpa using hs)
      obtain ⟨y,hyB,hky⟩:=(rch_iff hx hr _).1 r1
      have q1:(⟨pr y,(m:Int),(a:Int)⟩:Edg)∈q0:=by rw [←hky]; exact hq
      obtain ⟨e',he',h1,h2⟩:=(hr.m y (hx.ins y hyB) _ _).1 q1
      have hB':=hx.cl y hyB e' he'
      have m1:=Ud hn hx hyB
      have m2:=Ud hn hx hB'
      have k1:k=pN y:=by omega
      have k2:m=pN (toE e'):=by omega
      rw [k1,k2,rk_eq hn hx hr hS hyB,rk_eq hn hx hr hS hB',h2]
      rw [hx.pe.mem_iff,mem_rawE]
      obtain ⟨w1,w2⟩:=ZR hyB
      exact ⟨B.idxOf y,w1,e',by rw [w2]; exact he',by rw [Nat.zero_add]⟩
    · intro he
      obtain ⟨k,hk,m,hm,rfl,hmB⟩:=hx.mem he
      have hkB:ge B k∈B:=by rw [ZA hk]; exact List.getElem_mem hk
      have h1:=ha _ hkB m hm
      have m1:=Ud hn hx hkB
      have m2:=Ud hn hx hmB
      have hik:B.idxOf (ge B k)=k:=by
        obtain ⟨w1,w2⟩:=ZR hkB
        have w4:B[B.idxOf (ge B k)]=B[k]:=(ZA w1).symm.trans (w2.trans (ZA hk))
        exact (List.getElem_inj (asc_nodup hx.asc)).1 w4
      refine ⟨pN (ge B k),pN (toE m),m.a.toNat,by omega,by omega,by omega,(pN_seen hn hx hr hS hkB).2,(pN_seen hn hx hr hS hmB).2,?_,?_⟩
      · rw [m1.2.2,m2.2.2,show ((m.a.toNat:Nat):Int)=m.a by omega]
        exact (hr.m _ (hx.ins _ hkB) _ _).2 ⟨m,hm,rfl,rfl⟩
      · rw [rk_eq hn hx hr hS hkB,rk_eq hn hx hr hS hmB,hik,show ((m.a.toNat:Nat):Int)=m.a by omega]
  unfold refX mkX
  rw [e2,e4,e5,e6,e7]
end
end Go.D.StS
end
/- Chapter 22: the reference of history. -/
section
set_option linter.unusedVariables false
set_option linter.unusedSimpArgs false
namespace Go.D.StS
open Go.D.Srt
theorem b_mul8 {a:Int} (h:0≤a∧a≤1000000):binOp PP .mul 3 (.p (.int .i64 a)) (.p (.int .i64 8))=some (.p (.int .i64 (a*8))):=by
  rw [b_mul,QL (by omega) (by omega)]
theorem b_addI {a b:Int} (h:0≤a∧a≤100000000) (h2:0≤b∧b≤1000000):binOp PP .add 3 (.p (.int .i64 a)) (.p (.int .i64 b))=some (.p (.int .i64 (a+b))):=by
  rw [ZX,QL (by omega) (by omega)]
theorem S59 {s v:Int} (hs:0≤s∧s≤1000) (hv:0≤v∧v≤7) (σ:Qa):Qx CC 59 [.p (.int .i64 s),.p (.int .i64 v)] σ=some (.p (.int .i64 (pr (s,v)))):=by
  refine Qn rfl rfl (F59_call (r:=(.p (.int .i64 (pr (s,v))),[])) ?_) rfl
  rw [F59_eq,b_mul8 (by omega)]
  simp only [QB]
  rw [b_addI (by omega) (by omega)]
  rfl
def l0H (g:Gr) (h:Hs):List Int:=(iniH g h).map pr
def rowQ (g:Gr) (h:Hs) (i v:Nat):List Edg:=(List.range v).map fun (v:Nat)=>(⟨pr ((gE (L g.edges) i).f,(v:Int)),pr ((gE (L g.edges) i).t,(L ((L h.x).getD i none)).getD v 0),(gE (L g.edges) i).a⟩:Edg)
def qH (g:Gr) (h:Hs) (k:Nat):List Edg:=(List.range k).flatMap fun i=>rowQ g h i 8
theorem rowQ_succ (g:Gr) (h:Hs) (i v:Nat):rowQ g h i (v+1)=rowQ g h i v++[⟨pr ((gE (L g.edges) i).f,(v:Int)),pr ((gE (L g.edges) i).t,(L ((L h.x).getD i none)).getD v 0),(gE (L g.edges) i).a⟩]:=by
  unfold rowQ; rw [List.range_succ,List.map_append]; rfl
theorem qH_succ (g:Gr) (h:Hs) (k:Nat):qH g h (k+1)=qH g h k++rowQ g h k 8:=by
  unfold qH; rw [List.range_succ,List.flatMap_append]; simp
theorem qH_len (g:Gr) (h:Hs):∀ k,(qH g h k).length=8*k
  | 0=>rfl
  | k+1=>by rw [qH_succ,List.length_append,qH_len g h k]; simp [rowQ]; omega
theorem mem_qH {g:Gr} {h:Hs} {e:Edg} {k:Nat}:e∈qH g h k↔∃ i v:Nat,i<k∧v<8∧e=⟨pr ((gE (L g.edges) i).f,(v:Int)),pr ((gE (L g.edges) i).t,(L ((L h.x).getD i none)).getD v 0),(gE (L g.edges) i).a⟩:=by
  unfold qH
  rw [List.mem_flatMap]
  constructor
  · rintro ⟨i,hi,he⟩
    unfold rowQ at he
    rw [List.mem_map] at he
    obtain ⟨v,hv,rfl⟩:=he
    exact ⟨i,v,List.mem_range.1 hi,List.mem_range.1 hv,rfl⟩
  · rintro ⟨i,v,hi,hv,rfl⟩
    exact ⟨i,List.mem_range.2 hi,by unfold rowQ; rw [List.mem_map]; exact ⟨v,List.mem_range.2 hv,rfl⟩⟩
theorem bytes109:bytes? PP 109=some 24:=Eq.trans (by kernel_rfl) rfl
theorem zero109:Qz PP 109=some [.p (pI 0),.p (pI 0),.p (pI 0)]:=Eq.trans (by kernel_rfl) rfl
theorem src106:ZI PP 106=true:=Eq.trans (by kernel_rfl) rfl
theorem bld109 (x y z:Int):build PP 109 [(0,.p (.int .i64 x)),(1,.p (.int .i64 y)),(2,.p (.int .i64 z))]=some (.agg (edgD ⟨x,y,z⟩)):=Eq.trans (by kernel_rfl) rfl
theorem bs106 (e:Edg) (σ:Qa):buildSlice PP none 106 1 [(0,.agg (edgD e))] σ=some (.p (.sl true 1 (eEdg e)),σ):=Eq.trans (by kernel_rfl) rfl
section
variable {g : Gr} {h : Hs} (hg : GOk g) (hh : HOk g h) (hn : g.n ≤ 30) (he : (L g.edges).length ≤ 120)
include hg hh hn he
omit he in
theorem rt_L0:∀ (d k:Nat) (y:DV) (σ:Qa),(L g.init).length-k=d→k≤(L g.init).length→σ[0]?=some (.mix (eGr g))→σ[1]?=some (.mix (eHs h))→σ[2]?=some (.mix Z5)→Out σ 3 1 k (Qu ((l0H g h).take k)) y→
    ∃ y' σ',f20_L0 Qb 0 (.ptr 0 0) (.ptr 1 0) (.ptr 2 0) y (.p .nilsl) (N k) σ=f20_L1 Qb 0 (.ptr 0 0) (.ptr 1 0) (.ptr 2 0) y' (.p .nilsl) (N 0) σ'∧σ'[0]?=some (.mix (eGr g))∧σ'[1]?=some (.mix (eHs h))∧σ'[2]?=some (.mix Z5)∧Out σ' 3 1 (l0H g h).length (Qu (l0H g h)) y'
  | 0,k,y,σ,hd,hk,g0,g1,g2,ho=>by
    have e2:(l0H g h).length=(L g.init).length:=by simp [l0H,iniH]
    have e:k=(L g.init).length:=by omega
    have hil:=Vx hg
    subst e
    refine ⟨y,σ,?_,g0,g1,g2,?_⟩
    · rw [f20_L0_eq Qb rfl]
      simp (disch:=omega) only [N,WA,Qe,Qf,Nat.zero_add,Nat.add_zero,Qc,List.append_nil,List.singleton_append,List.cons_append,List.nil_append,QH,Qd (off:=1) g0 (v:=.p (eSl g.init)) rfl,QP,Qp,ltF,gG]
      rfl
    · rw [e2]
      rwa [List.take_of_length_le (by omega)] at ho
  | d+1,k,y,σ,hd,hk,g0,g1,g2,ho=>by
    have hkl:k<(L g.init).length:=by omega
    have e2:(l0H g h).length=(L g.init).length:=by simp [l0H,iniH]
    have hv:=hg.il _ (List.getElem_mem hkl)
    have hil:=Vx hg
    have hsl:=hh.sl
    generalize hs:(L g.init)[k]=s at *
    have ix:=Wn (o:=g.init) (i:=k) hkl
    have ldk:∀ σ,ZG (.pptr (Qu (L g.init)) k) σ=some (.p (.int .i64 s)):=fun σ=>by rw [ZF hkl,hs]
    have ixs:=idx22i (o:=h.s) (i:=s) hv.1 (by omega)
    have lds:=QD (l:=L h.s) (i:=s.toNat) (by omega) σ
    have hsv:=hh.sv s.toNat (by omega)
    simp only [pI] at lds
    have h59:=S59 (s:=s) (v:=(L h.s).getD s.toNat 0) (by omega) hsv σ
    obtain ⟨y1,σ1,p1,p2,p3,p4⟩:=Out.pushG (lo:=0) (vs:=[pI (pr (s,(L h.s).getD s.toNat 0))]) Uy u22 s3 VH Ur rfl (by decide) (by decide) (by decide) rfl ho (by omega) (QW g2) (Nat.zero_le _)
    have e1:Qu ((l0H g h).take k)++[pI (pr (s,(L h.s).getD s.toNat 0))]=Qu ((l0H g h).take (k+1)):=by
      rw [List.take_succ_eq_append_getElem (by omega)]
      simp [l0H,iniH,hs,Qu]
    rw [e1] at p2
    have km:∀ (j:Nat) (cs:List DV),σ[j]?=some (Row.mix cs)→σ1[j]?=some (Row.mix cs):=fun j cs e=>Others.mix p3 ho e (fun v e=>by cases e)
    obtain ⟨y',σ',r1,r2⟩:=rt_L0 d (k+1) y1 σ1 (by omega) (by omega) (km _ _ g0) (km _ _ g1) (km _ _ g2) p2
    refine ⟨y',σ',?_,r2⟩
    rw [←r1,f20_L0_eq Qb rfl]
    simp (disch:=omega) only [N,WA,Qe,Qf,Nat.zero_add,Nat.add_zero,Qc,List.append_nil,List.singleton_append,List.cons_append,List.nil_append,QH,Qd (off:=1) g0 (v:=.p (eSl g.init)) rfl,QP,Qp,ltT,gG,ix,QJ,ldk,Wt,Qd (off:=0) g1 (v:=.p (eSl h.s)) rfl,ixs,lds,h59,VI,p1,add1]
theorem rt_L2 {k:Nat} (hk:k<(L g.edges).length) {y5:DV}:∀ (d v:Nat) (y:DV) (σ:Qa),8-v=d→v≤8→σ[0]?=some (.mix (eGr g))→σ[1]?=some (.mix (eHs h))→σ[2]?=some (.mix Z5)→Out σ 3 3 (qH g h k++rowQ g h k v).length (Ze (qH g h k++rowQ g h k v)) y→
    ∃ y' σ',f20_L2 Qb 0 (.ptr 0 0) (.ptr 1 0) (.ptr 2 0) y5 y (N k) (N v) σ=f20_L1 Qb 0 (.ptr 0 0) (.ptr 1 0) (.ptr 2 0) y5 y' (N (k+1)) σ'∧σ'[0]?=some (.mix (eGr g))∧σ'[1]?=some (.mix (eHs h))∧σ'[2]?=some (.mix Z5)∧Out σ' 3 3 (qH g h (k+1)).length (Ze (qH g h (k+1))) y'
  | 0,v,y,σ,hd,hv,g0,g1,g2,ho=>by
    have e:v=8:=by omega
    subst e
    refine ⟨y,σ,?_,g0,g1,g2,by rw [qH_succ]; exact ho⟩
    rw [f20_L2_eq Qb rfl]
    simp (disch:=omega) only [N,Qp,ltF,gG,add1]
  | d+1,v,y,σ,hd,hv,g0,g1,g2,ho=>by
    have hlt:((v:Nat):Int)<8:=by omega
    have hxk:k<(L h.x).length:=by rw [hh.xl]; exact hk
    have hE:=hg.el _ (List.getElem_mem hk)
    rw [←Vh hk] at hE
    have hrow:=hh.xr k hxk
    have hrv:=hh.xv k hxk v (by omega)
    have ixe:=Uj (o:=g.edges) (i:=k) hk
    have ixh:=Uz (o:=h.x) (i:=k) hxk
    have ixv:=Wn (o:=(L h.x).getD k none) (i:=v) (by omega)
    have ldv:=QD (l:=L ((L h.x).getD k none)) (i:=v) (by omega) σ
    simp only [pI] at ldv
    have h59a:=S59 (s:=(gE (L g.edges) k).f) (v:=((v:Nat):Int)) (by omega) (by omega) σ
    have h59b:=S59 (s:=(gE (L g.edges) k).t) (v:=(L ((L h.x).getD k none)).getD v 0) (by omega) hrv σ
    have hql:=qH_len g h k
    have hrl:(rowQ g h k v).length=v:=by simp [rowQ]
    obtain ⟨y1,σ1,p1,p2,p3,p4⟩:=Out.pushG (lo:=0) (vs:=eEdg ⟨pr ((gE (L g.edges) k).f,(v:Int)),pr ((gE (L g.edges) k).t,(L ((L h.x).getD k none)).getD v 0),(gE (L g.edges) k).a⟩) src106 u106 s109 bytes109 zero109 rfl (by decide) (by decide) (by decide) rfl ho (by rw [List.length_append]; omega) (QW g2) (Nat.zero_le _)
    rw [eEdgs_snoc,List.append_assoc,←rowQ_succ,show (qH g h k++rowQ g h k v).length+1=(qH g h k++rowQ g h k (v+1)).length by rw [rowQ_succ]; simp; omega] at p2
    have km:∀ (j:Nat) (cs:List DV),σ[j]?=some (Row.mix cs)→σ1[j]?=some (Row.mix cs):=fun j cs e=>Others.mix p3 ho e (fun v e=>by cases e)
    obtain ⟨y',σ',r1,r2⟩:=rt_L2 hk d (v+1) y1 σ1 (by omega) (by omega) (km _ _ g0) (km _ _ g1) (km _ _ g2) p2
    refine ⟨y',σ',?_,r2⟩
    rw [←r1,f20_L2_eq Qb rfl]
    simp (disch:=omega) only [N,Qp,ltT hlt,gG,Zj,Qe,Qf,Nat.zero_add,Nat.add_zero,Qc,List.append_nil,List.singleton_append,List.cons_append,List.nil_append,Zh,Qd (off:=2) g0 (v:=.p (eEs g.edges)) rfl,ixe,Ug,Uo,Uf,QJ,ldEf hk,ldEt hk,ldEa hk,h59a,Wk,Wi,Qd (off:=1) g1 (v:=.p (eLs h.x)) rfl,ixh,QH,ldLs hxk,ixv,ldv,h59b,bld109,bs106,p1,add1]
theorem rt_L1 {y5:DV}:∀ (d k:Nat) (y:DV) (σ:Qa),(L g.edges).length-k=d→k≤(L g.edges).length→σ[0]?=some (.mix (eGr g))→σ[1]?=some (.mix (eHs h))→σ[2]?=some (.mix Z5)→Out σ 3 3 (qH g h k).length (Ze (qH g h k)) y→
    ∃ y' σ',f20_L1 Qb 0 (.ptr 0 0) (.ptr 1 0) (.ptr 2 0) y5 y (N k) σ=f20_L1 Qb 0 (.ptr 0 0) (.ptr 1 0) (.ptr 2 0) y5 y' (N (L g.edges).length) σ'∧σ'[0]?=some (.mix (eGr g))∧σ'[1]?=some (.mix (eHs h))∧σ'[2]?=some (.mix Z5)∧Out σ' 3 3 (qH g h (L g.edges).length).length (Ze (qH g h (L g.edges).length)) y'
  | 0,k,y,σ,hd,hk,g0,g1,g2,ho=>by
    have e:k=(L g.edges).length:=by omega
    subst e
    exact ⟨y,σ,rfl,g0,g1,g2,ho⟩
  | d+1,k,y,σ,hd,hk,g0,g1,g2,ho=>by
    have hkl:k<(L g.edges).length:=by omega
    obtain ⟨y1,σ1,a1,a2,a3,a4,a5⟩:=rt_L2 hg hh hn he hkl (y5:=y5) _ 0 y σ rfl (Nat.zero_le _) g0 g1 g2 (by simpa [rowQ] using ho)
    obtain ⟨y',σ',r1,r2⟩:=rt_L1 (y5:=y5) d (k+1) y1 σ1 (by omega) (by omega) a2 a3 a4 a5
    refine ⟨y',σ',?_,r2⟩
    rw [←r1,←a1,f20_L1_eq Qb rfl]
    simp (disch:=omega) only [N,Zj,Qe,Qf,Nat.zero_add,Nat.add_zero,Qc,List.append_nil,List.singleton_append,List.cons_append,List.nil_append,Zh,Qd (off:=2) g0 (v:=.p (eEs g.edges)) rfl,Wz,Qp,ltT,gG]
    rfl
theorem mvOkH:MvOk (l0H g h) (qH g h (L g.edges).length):=by
  have hil:=Vx hg
  have hnn:=hg.n0
  refine ⟨fun v hv=>?_,fun e hq=>?_,?_,?_⟩
  · unfold l0H at hv
    rw [List.mem_map] at hv
    obtain ⟨x,hx,rfl⟩:=hv
    have:=ini_in hg hh x hx
    unfold InS at this
    unfold pr
    omega
  · rw [mem_qH] at hq
    obtain ⟨i,v,hi,hv,rfl⟩:=hq
    have hE:=hg.el _ (List.getElem_mem hi)
    rw [←Vh hi] at hE
    have hrv:=hh.xv i (by rw [hh.xl]; exact hi) v hv
    unfold pr
    simp only
    omega
  · have e2:(l0H g h).length=(L g.init).length:=by simp [l0H,iniH]
    omega
  · rw [qH_len]; omega
omit hh hn he in
theorem refOkH:RefOk g.n (fun x=>oE (mvH g h x)) (iniH g h) (l0H g h) (qH g h (L g.edges).length):=by
  refine ⟨fun v=>?_,fun x hx m a=>?_,fun e hq=>?_⟩
  · unfold l0H
    rw [List.mem_map]
    exact ⟨fun ⟨x,h1,h2⟩=>⟨x,h1,h2.symm⟩,fun ⟨x,h1,h2⟩=>⟨x,h1,h2.symm⟩⟩
  · rw [mem_qH]
    unfold InS at hx
    constructor
    · rintro ⟨i,v,hi,hv,e⟩
      simp only [Edg.mk.injEq] at e
      obtain ⟨e1,e2,e3⟩:=e
      have hE:=hg.el _ (List.getElem_mem hi)
      rw [←Vh hi] at hE
      unfold pr at e1
      simp only at e1
      have h1:(gE (L g.edges) i).f=x.1:=by omega
      have h2:v=x.2.toNat:=by omega
      refine ⟨mvE g h x i,?_,?_,e3⟩
      · rw [L_oE]
        exact List.mem_map.2 ⟨i,Uh.2 ⟨hi,h1⟩,rfl⟩
      · rw [e2,h2]; rfl
    · rintro ⟨e,he2,rfl,rfl⟩
      rw [L_oE] at he2
      unfold mvH at he2
      rw [List.mem_map] at he2
      obtain ⟨i,hi,rfl⟩:=he2
      rw [Uh] at hi
      refine ⟨i,x.2.toNat,hi.1,by omega,?_⟩
      have h1:(((x.2.toNat:Nat)):Int)=x.2:=by omega
      rw [h1,hi.2]
      rfl
  · rw [mem_qH] at hq
    obtain ⟨i,v,hi,hv,rfl⟩:=hq
    have hE:=hg.el _ (List.getElem_mem hi)
    rw [←Vh hi] at hE
    exact ⟨((gE (L g.edges) i).f,(v:Int)),⟨hE.1,by simp only; omega⟩,rfl⟩
theorem S20:∃ S,S.length=240∧(∀ v,0≤v→v<240→(SD S v=true↔RchB (l0H g h) (qH g h (L g.edges).length) v))∧∀ σ,Qx CC 20 [.agg (eGr g),.agg (eHs h)] σ=some (.agg (eAx (refX S (l0H g h) (qH g h (L g.edges).length)))):=by
  have hmo:=mvOkH hg hh hn he
  obtain ⟨S,hS,hs,h60⟩:=S60 (o:=oI (l0H g h)) (q:=oE (qH g h (L g.edges).length)) (by rw [L_oI,L_oE]; exact hmo)
  rw [L_oI,L_oE] at hs h60
  refine ⟨S,hS,hs,fun σ=>?_⟩
  obtain ⟨y5,σ1,a1,a2,a3,a4,a5⟩:=rt_L0 hg hh hn _ 0 (.p .nilsl) [Row.mix (eGr g),.mix (eHs h),.mix Z5] rfl (Nat.zero_le _) rfl rfl rfl Out.zero
  obtain ⟨y6,σ2,b1,b2,b3,b4,b5⟩:=rt_L1 hg hh hn he (y5:=y5) _ 0 (.p .nilsl) σ1 rfl (Nat.zero_le _) a2 a3 a4 Out.zero
  have v5:view y5=.p (eSl (oI (l0H g h))):=by rw [Out.vw a5,oI_val]
  have v6:view y6=.p (eEs (oE (qH g h (L g.edges).length))):=by rw [Out.vw b5,oE_val]
  have h60':Qx CC 60 [y5,y6] σ2=some (.agg (eAx (refX S (l0H g h) (qH g h (L g.edges).length)))):=by
    rw [ZW (args':=[.p (eSl (oI (l0H g h))),.p (eEs (oE (qH g h (L g.edges).length)))]) (by simp [v5,v6]) (by simp [Zg,es_view])]
    exact h60 σ2
  have hst:=st33 (c:=eAx (refX S (l0H g h) (qH g h (L g.edges).length))) b4 rfl rfl rfl
  have hg2:(σ2.set 2 (.mix (eAx (refX S (l0H g h) (qH g h (L g.edges).length)))))[2]?=some (.mix (eAx (refX S (l0H g h) (qH g h (L g.edges).length)))):=by rw [List.getElem?_set_self (QW b4)]
  have hz:Qz PP 33=some Z5:=Um
  refine Qn (by simp [Zx,VD]) rfl (F20_call (r:=(.agg (eAx (refX S (l0H g h) (qH g h (L g.edges).length))),σ2.set 2 (.mix (eAx (refX S (l0H g h) (qH g h (L g.edges).length)))))) ?_) (by simp [Zf,Zw,eAx,mapO,thaw,Us,VB,Zp,ZE,WQ])
  rw [F20_eq]
  simp only [Zo,Wx,hz,gG,List.length_nil,List.nil_append,List.length_cons,List.cons_append]
  refine a1.trans (b1.trans ?_)
  rw [f20_L1_eq Qb rfl]
  simp (disch:=omega) only [N,Zj,Qe,Qf,Nat.zero_add,Nat.add_zero,Qc,List.append_nil,List.singleton_append,List.cons_append,List.nil_append,Zh,Qd (off:=2) b2 (v:=.p (eEs g.edges)) rfl,Wz,Qp,ltF,gG,h60',hst,Ww,VJ hg2]
end
end Go.D.StS
end
