/- AuxiliaryStutters: for every graph, every stuttering variable and every path the law answers true and leaves its arguments as they were: the given statement, without conditions. -/
import Derived.Test.YtkpdgafinpedgaaGreatUi
import Derived.Test.YtkpdgafinpedgaaGreatUj
import Derived.Test.YtkpdgafinpedgaaGreatUk
import Derived.Test.YtkpdgafinpedgaaGreatUf
import Derived.Test.YtkpdgafinpedgaaGreatUg
import Derived.Test.YtkpdgafinpedgaaGreatUc
/- The examples of chapter 22: awake answers true. -/
section
set_option linter.unusedVariables false
set_option linter.unusedSimpArgs false
set_option maxRecDepth 100000
namespace Go.D
def runAt (P:Program) (pol:FuncId->FPol) (k:Nat) (f:FuncId) (args:List DV) (r:DV) (σ:Qa):Bool:=
 match callK P pol k σ.length f args σ with
 | some (v,σ')=>match Ze σ.length σ' v with
  | some v'=>eqD v' r
  | none=>false
 | none=>false
theorem pureV_runAt {k:Nat} {f:FuncId} {args:List DV} {r:DV} {σ:Qa} (h:runAt PP pol k f args r σ=true) (h1:args.map view=args) (h2:args.all Zt=false):Qv CC f args σ=some r:=by
 unfold runAt at h
 split at h
 ·rename_i v σ' hc
  split at h
  ·rename_i v' ht
   exact (Wp h1 h2 (callL_at hc) ht).trans (by rw [eqD_eq h])
  ·exact absurd h (by simp)
 ·exact absurd h (by simp)
def pv2 (a b:Int):PV:=.sl true 2 (Qr [a,b])
def z33:List DV:=[.p (pI 0),.p .nilsl,.p .nilsl,.p .nilsl,.p .nilsl]
def gVc:List DV:=[.p (pI 2),.rsl 2 1 0 2]
def gB:PV:=.sl true 4 [pv2 0 0,pv2 0 1,pv2 1 0,pv2 1 1]
def s1:Qa:=[.mix exA]
def s3':Qa:=[.mix exA,.mix gVc,.mix [.p (.sl true 2 [pv2 0 0,pv2 1 1]),.p gB]]
def s4':Qa:=[.mix exA,.mix gVc,.mix [.p (.sl true 2 [pv2 0 0,pv2 1 1]),.p gB],.mix gVc]
def s5':Qa:=[.mix exA,.mix gVc,.mix [.p (.sl false 1 [pv2 0 0]),.p gB],.mix gVc]
def s6':Qa:=[.mix exA,.mix gVc,.mix [.p (.sl false 1 [pv2 0 0]),.p gB],.mix gVc,.mix exY]
theorem run39:runAt PP pol 40 39 [.agg (eGr exG),.agg gVc] (.tuple [.p (pI 0),.p (pI 1),.p (pI 31)]) s5'=true:=by decide +kernel
theorem E46 (σ:Qa):Qv CC 46 [] σ=some (.agg (eGr exG)):=WS run46 rfl rfl
theorem E47 (σ:Qa):Qv CC 47 [] σ=some (.agg exH):=WS run47 rfl rfl
theorem E49 (σ:Qa):Qv CC 49 [] σ=some (.agg exS):=WS run49 rfl rfl
theorem E12 (σ:Qa):Qv CC 12 [.agg (eGr exG),.agg exH] σ=some (.tuple [.agg exA,.p (pI 0)]):=WS run12 rfl rfl
theorem E25 (σ:Qa):Qv CC 25 [.agg (eGr exG),.agg exS] σ=some (.tuple [.agg exY,.p (pI 0)]):=WS run25 rfl rfl
theorem E15 (σ:Qa):Qv CC 15 [.agg (eGr exG),.agg exH,.p (.sl true 4 (Qr [0,1,0,1]))] σ=some (.tuple [.p (eSl (some [0,3,1,4])),.p (pI 0)]):=by
 rw [Wc (args':=[.agg (eGr exG),.agg exH,.p (eSl (some [0,1,0,1]))]) rfl rfl]
 exact WS run15 rfl rfl
theorem E27 (σ:Qa):Qv CC 27 [.agg (eGr exG),.agg exS,.p (.sl true 2 (Qr [0,1]))] σ=some (.tuple [.p (eSl (some [0,2,1,3])),.p (pI 0)]):=by
 rw [Wc (args':=[.agg (eGr exG),.agg exS,.p (eSl (some [0,1]))]) rfl rfl]
 exact WS run27 rfl rfl
theorem E31 (σ:Qa):Qv CC 31 [.agg exY,.p (.sl true 3 (Qr [0,2,1]))] σ=some (.tuple [.p (eSl (some [0])),.p (pI 0)]):=by
 rw [Wc (args':=[.agg exY,.p (eSl (some [0,2,1]))]) rfl rfl]
 exact WS run31 rfl rfl
theorem E34 (l:List Int) (n:Nat) (hn:n=l.length) (hl:l.length<=1000) (σ:Qa):Qv CC 34 [.p (eSl (some l)),.p (.sl true n (Qr l))] σ=some (.p (.bool true)):=by
 rw [Wc (args':=[.p (eSl (some l)),.p (eSl (some l))]) (by subst hn; simp [view,Zw,Zs,Zu,eSl]) (by simp [Zf])]
 exact S34 (a:=some l) (b:=some l) rfl hl
theorem E39:Qv CC 39 [.agg (eGr exG),.agg gVc] s5'=some (.tuple [.p (pI 0),.p (pI 1),.p (pI 31)]):=pureV_runAt run39 rfl rfl
theorem E48:Qd CC 0 (.fn 48 []) [] s1=some (.agg gVc,s3'):=by
 have h:callK PP pol 40 0 48 [] s1=some (.agg gVc,s3'):=by kernel_rfl
 exact callL_at h
theorem g33:Qx PP 33=some z33:=Eq.trans (by kernel_rfl) rfl
theorem g74:Qx PP 74=some [.p (pI 0),.p .nilsl]:=Eq.trans (by kernel_rfl) rfl
theorem h1:store PP 0 33 (.ptr 0 0) (.agg exA) [.mix z33]=some s1:=Eq.trans (by kernel_rfl) rfl
theorem h4:store PP 0 74 (.ptr 3 0) (.agg gVc) (s3'++[.mix [.p (pI 0),.p .nilsl]])=some s4':=Eq.trans (by kernel_rfl) rfl
theorem l3:s3'.length=3:=rfl
theorem l5:s5'.length=4:=rfl
theorem h5:fieldAddr PP 74 (.ptr 3 0) 1=some (.ptr 3 1):=Eq.trans (by kernel_rfl) rfl
theorem h6:load PP 72 (.ptr 3 1) s4'=some (.rsl 2 1 0 2):=Eq.trans (by kernel_rfl) rfl
theorem h7:indexAddr PP 72 (.rsl 2 1 0 2) (.p (.int .i64 0))=some (.ptr 2 0):=Eq.trans (by kernel_rfl) rfl
theorem h8:load PP 26 (.ptr 2 0) s4'=some (.p (.sl true 2 [pv2 0 0,pv2 1 1])):=Eq.trans (by kernel_rfl) rfl
theorem h9:Zy PP 26 (.p (.sl true 2 [pv2 0 0,pv2 1 1])) none (some (.p (.int .i64 1))) none=some (.p (.sl false 1 [pv2 0 0])):=Eq.trans (by kernel_rfl) rfl
theorem h10:store PP 0 26 (.ptr 2 0) (.p (.sl false 1 [pv2 0 0])) s4'=some s5':=Eq.trans (by kernel_rfl) rfl
theorem h11:load PP 74 (.ptr 3 0) s5'=some (.agg gVc):=Eq.trans (by kernel_rfl) rfl
theorem h13:store PP 0 33 (.ptr 4 0) (.agg exY) (s5'++[.mix z33])=some s6':=Eq.trans (by kernel_rfl) rfl
theorem h14:load PP 33 (.ptr 4 0) s6'=some (.agg exY):=Eq.trans (by kernel_rfl) rfl
theorem h15:load PP 22 (.ptr 0 3) s6'=some (.p (eSl (some [0,0,0,1,1]))):=Eq.trans (by kernel_rfl) rfl
theorem h16:load PP 22 (.ptr 0 4) s6'=some (.p (eSl (some [0,1,2,1,2]))):=Eq.trans (by kernel_rfl) rfl
theorem bs22_4 (a b c d:Int) (σ:Qa):buildSlice PP none 22 4 [(0,.p (.int .i64 a)),(1,.p (.int .i64 b)),(2,.p (.int .i64 c)),(3,.p (.int .i64 d))] σ=some (.p (.sl true 4 (Qr [a,b,c,d])),σ):=Eq.trans (by kernel_rfl) rfl
theorem bs22_5 (a b c d e:Int) (σ:Qa):buildSlice PP none 22 5 [(0,.p (.int .i64 a)),(1,.p (.int .i64 b)),(2,.p (.int .i64 c)),(3,.p (.int .i64 d)),(4,.p (.int .i64 e))] σ=some (.p (.sl true 5 (Qr [a,b,c,d,e])),σ):=Eq.trans (by kernel_rfl) rfl
theorem bs22_3' (a b c:Int) (σ:Qa):buildSlice PP none 22 3 [(0,.p (.int .i64 a)),(1,.p (.int .i64 b)),(2,.p (.int .i64 c))] σ=some (.p (.sl true 3 (Qr [a,b,c])),σ):=Eq.trans (by kernel_rfl) rfl
theorem bs22_1' (a:Int) (σ:Qa):buildSlice PP none 22 1 [(0,.p (.int .i64 a))] σ=some (.p (.sl true 1 (Qr [a])),σ):=Eq.trans (by kernel_rfl) rfl
theorem e3_0 (a b c:DV):Qj (.tuple [a,b,c]) 0=some a:=Eq.trans rfl rfl
theorem e3_1 (a b c:DV):Qj (.tuple [a,b,c]) 1=some b:=Eq.trans rfl rfl
theorem e3_2 (a b c:DV):Qj (.tuple [a,b,c]) 2=some c:=Eq.trans rfl rfl
theorem awake_F9:F9 Qb 0 []=some (.p (.bool true),s6'):=by
 rw [F9_eq]
 simp only [Qi,List.append_nil,E46,E47,E12,Qz,ex0,ex1,g33,List.length_nil,List.nil_append,h1,bs22_4,E15,E48,g74,l3,h4,h5,h6,h7,h8,h9,h10,h11,E39,e3_0,e3_1,e3_2,E49,bs22_2,E27,E25,l5,h13,
  Wh,QV,eqT (rfl:(0:Int)=0),eqT (rfl:(1:Int)=1),eqT (rfl:(31:Int)=31),Bool.not_true,ZB,ZL,WO,WN,ZM,Zq,QH,QD,QA,Qw,h14,bs22_3',E31,Wi,Vd,QJ,Nat.zero_add,Nat.add_zero,h15,h16,bs22_5,bs22_1',E34 [0,0,0,1,1] 5 rfl (by decide),E34 [0,1,2,1,2] 5 rfl (by decide),E34 [0,3,1,4] 4 rfl (by decide),E34 [0,2,1,3] 4 rfl (by decide),E34 [0] 1 rfl (by decide),decide_true]
theorem awake_true:∀ σ,Qv CC 9 [] σ=some (.p (.bool true)):=fun σ=>Qk rfl rfl (F9_call awake_F9) rfl
end Go.D
end
/- Chapter 22: the graph extended by a stuttering variable. -/
section
set_option linter.unusedVariables false
set_option linter.unusedSimpArgs false
namespace Go.D.StS
open Go.D.Srt
structure COk (g:Gr) (c:OI):Prop where
 cl:(L c).length=(L g.edges).length
 cv:∀ i,i<(L c).length->0<=(L c).getD i 0/\(L c).getD i 0<=7
theorem WH {g:Gr} {c:OI} {x:E} {i:Nat} {e:Edg}:e∈stS g c x i↔(((x.2=1/\(L c).getD i 0>0)\/(x.2=0/\(L c).getD i 0=0))/\e=⟨(gE (L g.edges) i).t,0,(gE (L g.edges) i).a⟩)\/((x.2=0/\(L c).getD i 0≠0)/\e=⟨x.1,(L c).getD i 0,11⟩):=by
 unfold stS
 by_cases h1:(x.2=1/\(L c).getD i 0>0)\/(x.2=0/\(L c).getD i 0=0)
 ·rw [if_pos h1,List.mem_singleton]
  constructor
  ·exact fun h=>.inl ⟨h1,h⟩
  ·rintro (⟨_,h⟩ | ⟨⟨h2,h3⟩,_⟩)
   ·exact h
   ·rcases h1 with h1 | h1
    ·omega
    ·exact absurd h1.2 h3
 ·rw [if_neg h1]
  by_cases h2:x.2=0
  ·rw [if_pos h2,List.mem_singleton]
   have h3:(L c).getD i 0≠0:=fun h=>h1 (.inr ⟨h2,h⟩)
   constructor
   ·exact fun h=>.inr ⟨⟨h2,h3⟩,h⟩
   ·rintro (⟨h,_⟩ | ⟨_,h⟩)
    ·exact absurd h h1
    ·exact h
  ·rw [if_neg h2]
   constructor
   ·exact fun h=>absurd h (by simp)
   ·rintro (⟨h,_⟩ | ⟨h,_⟩)
    ·exact absurd h h1
    ·exact absurd h.1 h2
theorem ZW {g:Gr} {c:OI} {x:E} {e:Edg}:e∈mvS g c x↔(x.2>1/\e=⟨x.1,x.2-1,11⟩)\/(¬ x.2>1/\∃ j,j<(L g.edges).length/\(gE (L g.edges) j).f=x.1/\e∈stS g c x j):=by
 unfold mvS
 by_cases h1:x.2>1
 ·rw [if_pos h1,List.mem_singleton]
  exact ⟨fun h=>.inl ⟨h1,h⟩,fun h=>by rcases h with h | h; exact h.2; exact absurd h1 h.1⟩
 ·rw [if_neg h1,List.mem_flatMap]
  constructor
  ·rintro ⟨j,hj,he⟩
   rw [mem_frN] at hj
   exact .inr ⟨h1,j,hj.1,hj.2,he⟩
  ·rintro (h | ⟨_,j,h2,h3,h4⟩)
   ·exact absurd h.1 h1
   ·exact ⟨j,mem_frN.2 ⟨h2,h3⟩,h4⟩
theorem mvS_in {g:Gr} {c:OI} (hg:GOk g) (hc:COk g c) {x:E} (hx:InS g.n x) {e:Edg} (he:e∈mvS g c x):InS g.n (toE e):=by
 unfold InS at hx
 rcases ZW.1 he with ⟨h1,rfl⟩ | ⟨_,j,h1,h2,h3⟩
 ·unfold InS toE; simp only; omega
 ·have hE:=hg.el _ (List.getElem_mem h1)
  rw [<-Vw h1] at hE
  have hv:=hc.cv j (by rw [hc.cl]; exact h1)
  rcases WH.1 h3 with ⟨_,rfl⟩ | ⟨_,rfl⟩
  ·unfold InS toE; simp only; omega
  ·unfold InS toE; simp only; omega
theorem stS_len (g:Gr) (c:OI) (x:E) (i:Nat):(stS g c x i).length<=1:=by
 unfold stS
 split
 ·exact Nat.le_refl 1
 ·split
  ·exact Nat.le_refl 1
  ·exact Nat.zero_le 1
theorem flat_len {f:Nat->List Edg} (hf:∀ i,(f i).length<=1):∀ l:List Nat,(l.flatMap f).length<=l.length
 | []=>Nat.le_refl 0
 | a::l=>by
  rw [List.flatMap_cons,List.length_append,List.length_cons]
  have h1:=flat_len hf l
  have h2:=hf a
  omega
theorem mvS_len {g:Gr} (c:OI) (he:(L g.edges).length<=16) (x:E):(mvS g c x).length<=16:=by
 unfold mvS
 split
 ·simp
 ·have h1:=flat_len (stS_len g c x) (frN (L g.edges) x.1 (L g.edges).length)
  have h2:=frN_len (L g.edges) x.1 (L g.edges).length
  omega
def iniS (g:Gr):List E:=(L g.init).map fun s=>(s,0)
theorem iniS_in {g:Gr} (hg:GOk g):∀ x∈iniS g,InS g.n x:=fun x hx=>by
 unfold iniS at hx
 rw [List.mem_map] at hx
 obtain ⟨s,hs,rfl⟩:=hx
 have h1:=hg.il s hs
 unfold InS
 simp only
 omega
theorem iniS_asc {g:Gr} (hg:GOk g):Asc (iniS g):=by
 unfold Asc iniS
 rw [List.pairwise_map]
 exact hg.ip.imp fun {a b} hlt=>.inl hlt
section
variable {g : Gr} {c : OI} (hg : GOk g) (hc : COk g c)
include hg
theorem L66 {C:Nat} {σ3:Qa} (w2:σ3[C+1]?=some (.mix (eCs c))):∀ (d k:Nat) (y:DV) (ρ:Qa),(L g.init).length-k=d->k<=(L g.init).length->(∀ j,j<C+3->ρ[j]?=σ3[j]?)->ρ[C+3]?=some (.mix [y,.p .nilfn])->Out ρ (C+4) 2 k (Vx ((iniS g).take k)) y->
  ∃ y' ρ',f66_L0 Qb 0 (.ptr C 0) (.ptr (C+1) 0) (.ptr (C+2) 0) (.ptr (C+3) 0) (.p (eSl g.init)) (N (L g.init).length) (N k) ρ=f66_L0 Qb 0 (.ptr C 0) (.ptr (C+1) 0) (.ptr (C+2) 0) (.ptr (C+3) 0) (.p (eSl g.init)) (N (L g.init).length) (N (L g.init).length) ρ'/\
   (∀ j,j<C+3->ρ'[j]?=σ3[j]?)/\ρ'[C+3]?=some (.mix [y',.p .nilfn])/\Out ρ' (C+4) 2 (iniS g).length (Vx (iniS g)) y'
 | 0,k,y,ρ,hd,hk,hlow,hex,ho=>by
  have e:k=(L g.init).length:=by omega
  subst e
  have e2:(iniS g).length=(L g.init).length:=by simp [iniS]
  refine ⟨y,ρ,rfl,hlow,hex,?_⟩
  rw [e2]
  rwa [List.take_of_length_le (by omega)] at ho
 | d+1,k,y,ρ,hd,hk,hlow,hex,ho=>by
  have hkl:k<(L g.init).length:=by omega
  have e2:(iniS g).length=(L g.init).length:=by simp [iniS]
  have hil:=hg.il _ (List.getElem_mem hkl)
  have hn:=VB hg
  have hn2:=hg.n0
  have hlenC:=QT hex
  generalize hs:(L g.init)[k]=s at *
  have ix:=ZS (o:=g.init) (i:=k) hkl
  have ldk:ZX (.pptr (Qr (L g.init)) k) ρ=some (.p (.int .i64 s)):=by rw [ZG hkl,hs]
  obtain ⟨y1,ρ1,p1,p2,p3⟩:=Out.pushE' ho (by omega) (by omega) (s,0)
  have e1:(iniS g).take k++[((s,0):E)]=(iniS g).take (k+1):=by
   rw [List.take_succ_eq_append_getElem (by omega)]
   simp only [iniS,List.getElem_map,hs]
  rw [e1] at p2
  have km:∀ (j:Nat) (row:Row),j<C+4->ρ[j]?=some row->ρ1[j]?=some row:=fun j row hj e=>p3 j row e (by
   rintro r ver sz n cs rfl rfl
   rcases ho.2 with ⟨_,e⟩ | ⟨_,r',ver',e,_,e3⟩
   ·cases e
   ·injection e with e; omega)
  have hex1:=km _ _ (by omega) hex
  have hst:=st134_0 hex1 (QQ p2).1 (QQ p2).2
  obtain ⟨y',ρ',r1,r2⟩:=L66 w2 d (k+1) y1 (ρ1.set (C+3) (.mix [y1,.p .nilfn])) (by omega) (by omega) (fun j hj=>by
   rw [List.getElem?_set_ne (by omega)]
   have:=hlow j hj
   cases hx:σ3[j]? with
   | none=>rw [hx] at this; have h3:=List.getElem?_eq_none_iff.1 this; omega
   | some row=>rw [hx] at this; exact km _ _ (by omega) this) (by rw [List.getElem?_set_self (QT hex1)]) (Out.setLow p2 (by omega) _)
  refine ⟨y',ρ',?_,r2⟩
  rw [<-r1,f66_L0_eq Qb rfl]
  simp (disch:=omega) only [N,Qn,ltT,gG,ix,QF,ldk,fa137_0,gP,Vk,Qc (off:=0) hex (v:=y) rfl,Uw,bs134,p1,hst,add1]
include hc
theorem S66 (hn:g.n<=8) (he:(L g.edges).length<=16) (σ:Qa) :
  ∃ B E' ix ex bx ax σ' r m,CC 0 66 [.agg (eGr g),.agg (eCs c)] σ=some (.tuple [.agg [.p (pI B.length),ix,ex,bx,ax,.map r],.p (pI 0)],σ')/\ExtG g.n (fun x=>oE (mvS g c x)) (iniS g) B E'/\
   GR (σ.length+4) B (nums B (iniS g)) E' ix ex bx ax σ'/\(∀ j,j<σ.length->σ'[j]?=σ[j]?)/\σ'[r]?=some (.map (entZ m))/\(∀ j,j<B.length->WW m (ge B j)=some (j:Int))/\σ.length+4<=σ'.length:=by
 obtain ⟨z4,hz4,hz4l⟩:=zero95
 have w:∀ k,(σ++[Row.mix (eGr g),.mix (eCs c),.mix z4,.mix [.p .nilsl,.p .nilfn]])[σ.length+k]?=([Row.mix (eGr g),.mix (eCs c),.mix z4,.mix [.p .nilsl,.p .nilfn]]:Qa)[k]?:=fun k=>by
  rw [List.getElem?_append_right (by omega),Nat.add_sub_cancel_left]
 obtain ⟨y,ρ,a1,a2,a3,a4⟩:=L66 hg (c:=c) (C:=σ.length) (σ3:=σ++[Row.mix (eGr g),.mix (eCs c),.mix z4,.mix [.p .nilsl,.p .nilfn]]) (w 1) _ 0 (.p .nilsl) _ rfl (Nat.zero_le _) (fun j _=>rfl) (w 3) Out.zero
 obtain ⟨o1,o2,o3⟩:=out_idx a4
 have hst:=st135_1 (v:=.fn 95 [.ptr σ.length 0,.ptr (σ.length+1) 0]) a3 rfl rfl
 have hlr:=QT a3
 have b1:∀ j,j<σ.length+3->(ρ.set (σ.length+3) (.mix [y,.fn 95 [.ptr σ.length 0,.ptr (σ.length+1) 0]]))[j]?=(σ++[Row.mix (eGr g),.mix (eCs c),.mix z4,.mix [.p .nilsl,.p .nilfn]])[j]?:=fun j hj=>by
  rw [List.getElem?_set_ne (by omega)]; exact a2 j hj
 have b2:(ρ.set (σ.length+3) (.mix [y,.fn 95 [.ptr σ.length 0,.ptr (σ.length+1) 0]]))[σ.length+3]?=some (.mix [y,.fn 95 [.ptr σ.length 0,.ptr (σ.length+1) 0]]):=by rw [List.getElem?_set_self hlr]
 have hlρ:(ρ.set (σ.length+3) (.mix [y,.fn 95 [.ptr σ.length 0,.ptr (σ.length+1) 0]])).length=ρ.length:=by simp
 generalize hτ:ρ.set (σ.length+3) (.mix [y,.fn 95 [.ptr σ.length 0,.ptr (σ.length+1) 0]])=τ at *
 have c0:τ[σ.length]?=some (.mix (eGr g)):=(b1 _ (by omega)).trans (w 0)
 have c1:τ[σ.length+1]?=some (.mix (eCs c)):=(b1 _ (by omega)).trans (w 1)
 have c2:τ[σ.length+2]?=some (.mix z4):=(b1 _ (by omega)).trans (w 2)
 have hI0:IG g.n (Zk [] (iniS g)):=⟨addAll_nodup _ _ List.nodup_nil,fun x hx=>by
  rcases (Wt _ _ _).1 hx with h1 | h1
  ·exact absurd h1 (by simp)
  ·exact iniS_in hg x h1⟩
 have hIM:∀ A x,IG g.n A->x∈A->IG g.n (Zk A ((L (oE (mvS g c x))).map toE)):=fun A x hA hx=>⟨addAll_nodup _ _ hA.nd,fun v hv=>by
  rcases (Wt _ _ _).1 hv with h1 | h1
  ·exact hA.ir v h1
  ·rw [L_oE,List.mem_map] at h1
   obtain ⟨e,he,rfl⟩:=h1
   exact mvS_in hg hc (hA.ir x hx) he⟩
 obtain ⟨k1,k2,k3⟩:=groM_closed (M:=fun x=>oE (mvS g c x)) (K:=64) (fun A hA=>IG.len hA hn) hIM 64 0 _ hI0 (by omega) (fun j hj=>by omega)
 have hil:=VB hg
 have e2:(iniS g).length=(L g.init).length:=by simp [iniS]
 obtain ⟨B,E',ix,ex,bx,ax,σ',m,d1,d2,d3,d4,d5,d6,d7,d8,d9,d10⟩:=gr_main (σ0:=τ) (mv:=95) (caps:=[.ptr σ.length 0,.ptr (σ.length+1) 0]) o1 o2 o3 (fun x=>oE (mvS g c x)) (InS g.n) 64 (by decide)
  (fun x hx ρ hρ=>S95 ((hρ _ (QT c0)).trans c0) ((hρ _ (QT c1)).trans c1) (by omega) hc.cl (fun j hj=>(hc.cv j hj).1) hx.2) (fun x _=>by rw [L_oE]; have:=mvS_len c he x; omega)
  (IG g.n) (fun A hA=>hA.ir) (fun A hA=>⟨IG.len hA hn,hA.nd⟩) hIM hI0 (by omega) (iniS_asc hg) k3 (fun x hx=>k2.subset ((Wt _ _ _).2 (.inr hx)))
  (fun B hB hB2=>by
   have h1:=rawE_len (M:=fun x=>oE (mvS g c x)) (B:=B) (c:=16) B 0 (fun x _=>by rw [L_oE]; have:=mvS_len c he x; omega)
   have h2:=hB.length_eq
   have h3:=IG.len k1 hn
   omega)
 have hBm:∀ x,x∈B↔x∈groM (fun x=>oE (mvS g c x)) 64 0 (Zk [] (iniS g)):=fun x=>d2.mem_iff
 have hz:σ'[σ.length+2]?=some (.mix z4):=(d7 _ (QT c2)).trans c2
 have hone:([.p (pI B.length),ix,ex,bx,ax,.map (τ.length+2)]:List DV).all DV.one=true:=by
  simp [(VS d6.re).1,(rowG_one d6.ri).1,(QQ d6.ob).1,(QQ d6.oa).1]
  exact ⟨rfl,rfl⟩
 have hst2:=st95 (c:=[.p (pI B.length),ix,ex,bx,ax,.map (τ.length+2)]) hz hz4l rfl hone
 have hcv:Vy PP 95 (.ptr (σ.length+2) 0) (σ'.set (σ.length+2) (.mix [.p (pI B.length),ix,ex,bx,ax,.map (τ.length+2)]))=some (.agg [.p (pI B.length),ix,ex,bx,ax,.map (τ.length+2)]):=by
  have hg:(σ'.set (σ.length+2) (.mix [.p (pI B.length),ix,ex,bx,ax,.map (τ.length+2)]))[σ.length+2]?=some (.mix [.p (pI B.length),ix,ex,bx,ax,.map (τ.length+2)]):=by rw [List.getElem?_set_self (QT hz)]
  rw [WA,load95,QI (vs:=[.p (pI B.length),ix,ex,bx,ax,.map (τ.length+2)]) hg rfl (by simp)]; rfl
 refine ⟨B,E',ix,ex,bx,ax,σ'.set (σ.length+2) (.mix [.p (pI B.length),ix,ex,bx,ax,.map (τ.length+2)]),τ.length+2,m,F66_call ?_,
  ⟨d3,fun x hx=>k1.ir x ((hBm x).1 hx),fun x hx=>(hBm x).2 (k2.subset ((Wt _ _ _).2 (.inr hx))),fun x hx e he=>(hBm _).2 (k3 x ((hBm x).1 hx) e he),d2,d4.1,d4.2,d5⟩,
  (d6.mono (by omega)).setLow (by omega) _,fun j hj=>?_,Qu d8 (by omega),d9,by rw [List.length_set]; omega⟩
 ·have hb1:boxV (.agg (eGr g))=some (eGr g):=rfl
  have hb2:boxV (.agg (eCs c))=some (eCs c):=rfl
  have hl1:(σ++[Row.mix (eGr g)]).length=σ.length+1:=by simp
  have hl2:((σ++[Row.mix (eGr g)])++[Row.mix (eCs c)]).length=σ.length+2:=by simp
  have hl3:(((σ++[Row.mix (eGr g)])++[Row.mix (eCs c)])++[Row.mix z4]).length=σ.length+3:=by simp
  have hsσ:((((σ++[Row.mix (eGr g)])++[Row.mix (eCs c)])++[Row.mix z4])++[Row.mix [.p .nilsl,.p .nilfn]])=σ++[Row.mix (eGr g),.mix (eCs c),.mix z4,.mix [.p .nilsl,.p .nilfn]]:=by simp
  have hld:load PP 137 (.ptr (σ.length+3) 0) τ=some (.agg [y,.fn 95 [.ptr σ.length 0,.ptr (σ.length+1) 0]]):=by
   rw [load137,QI (vs:=[y,.fn 95 [.ptr σ.length 0,.ptr (σ.length+1) 0]]) b2 rfl (by simp)]; rfl
  have w0:(σ++[Row.mix (eGr g),.mix (eCs c),.mix z4,.mix [.p .nilsl,.p .nilfn]])[σ.length]?=some (.mix (eGr g)):=w 0
  rw [F66_eq]
  simp only [hb1,hb2,hz4,zero137,gG,hl1,hl2,hl3,hsσ,WE,gP,QO,Qc (off:=1) w0 (v:=.p (eSl g.init)) rfl,QZ]
  refine a1.trans ?_
  rw [f66_L0_eq Qb rfl]
  simp (disch:=omega) only [N,Qn,ltF,gG,fa137_1,gP,hst,hld,Qq,d1,ex0,ex1,hst2,hcv]
 ·rw [List.getElem?_set_ne (by omega),d7 j (by have:=QT c0; omega),b1 j (by omega),List.getElem?_append_left hj]
end
end Go.D.StS
end
/- Chapter 22: errors of stuttering variables; own copies; AddStutter. -/
section
set_option linter.unusedVariables false
set_option linter.unusedSimpArgs false
namespace Go.D.StS
open Go.D.Srt
def Jc (g:Gr) (c:OI):Int:=if (L c).length=(L g.edges).length then (if (L c).any bA=true then 3 else 0) else 6
def errC (g:Gr) (c:OI):Int:=if errG g=0 then Jc g c else errG g
theorem errCR_zero {g:Gr} {c:OI} (he:Jc g c=0):COk g c:=by
 unfold Jc at he
 by_cases h1:(L c).length=(L g.edges).length
 ·rw [if_pos h1] at he
  cases h2:(L c).any bA with
  | true=>rw [h2] at he; simp at he
  | false=>
   refine ⟨h1,fun i hi=>?_⟩
   have:=any_false h2 i hi
   have h3:inR ((L c).getD i 0) 0 7=true:=by simpa [bA] using this
   rwa [WJ] at h3
 ·rw [if_neg h1] at he; exact absurd he (by decide)
theorem h53_3 (a b d:Int) (σ:Qa):Qv CC 53 [.p (.sl true 3 (Qr [a,b,d]))] σ=some (.p (.int .i64 (orL [a,b,d]))):=S53t rfl (by simp)
theorem bs143_3i (x y z:Int) (σ:Qa):buildSlice PP none 143 3 [(0,.p (.int .i64 x)),(1,.p (.int .i64 y)),(2,.p (.int .i64 z))] σ=some (.p (.sl true 3 (Qr [x,y,z])),σ):=bs143_3 x y z σ
section
variable {g : Gr} {c : OI}
theorem S65 (hi:(L g.init).length<=1000) (he:(L g.edges).length<=10000) (hl:(L c).length<=1000) (σ:Qa):Qv CC 65 [.agg (eGr g),.agg (eCs c)] σ=some (.p (pI (errC g c))):=by
 have g0:([Row.mix (eGr g),.mix (eCs c)]:Qa)[0]?=some (.mix (eGr g)):=rfl
 have g1:([Row.mix (eGr g),.mix (eCs c)]:Qa)[1]?=some (.mix (eCs c)):=rfl
 have h81:=S81 hi he [Row.mix (eGr g),.mix (eCs c)]
 simp only [pI] at h81
 have h82:=S82' (o:=c) (σ:=[Row.mix (eGr g),.mix (eCs c)]) hl
 have q:decide (((L c).length:Int)=((L g.edges).length:Nat))=decide ((L c).length=(L g.edges).length):=by rw [decide_eq_decide]; omega
 refine Qk (by simp [Zz,VI]) rfl (F65_call (r:=(.p (pI (errC g c)),[.mix (eGr g),.mix (eCs c)])) ?_) rfl
 have e1:orL [errG g,if decide ((L c).length=(L g.edges).length)=true then 0 else 6,if (!(L c).any bA)=true then 0 else 3]=errC g c:=by
  unfold errC Jc
  by_cases a0:errG g=0 <;> cases (L c).any bA <;> by_cases a2:(L c).length=(L g.edges).length <;> simp [orL,a0,a2]
 rw [F65_eq]
 simp only [Zr,WF,gG,List.length_nil,List.nil_append,List.length_cons,List.cons_append,ZZ,Zg,gP,Wy g0,h81,QO,Zc,cs_0 g1,Qc (off:=2) g0 (v:=.p (eEs g.edges)) rfl,QZ,Ww,QV,q,S73i,h82,bs143_3i,h53_3,e1]
theorem L28 {σ:Qa} {r:Nat} (g1:σ[r]?=some (.mix (eCs c))) (hl:(L c).length<=1000):∀ (d i:Nat),(L c).length-i=d->i<=(L c).length->
  f28_L0 Qb 0 (.ptr r 0) (N i) σ=some (.p (pI (if ((L c).drop i).any bA=true then 3 else 0)),σ)
 | 0,i,hd,hi=>by
  rw [f28_L0_eq Qb rfl,List.drop_of_length_le (by omega)]
  simp (disch:=omega) only [N,ZZ,gP,QO,cs_0 g1,QZ,Qn,ltF,gG]
  rfl
 | d+1,i,hd,hi=>by
  have hil:i<(L c).length:=by omega
  have ih:=L28 g1 hl d (i+1) (by omega) (by omega)
  have e0:(L c).drop i=(L c).getD i 0::(L c).drop (i+1):=by rw [Zp 0 hil]; exact List.drop_eq_getElem_cons hil
  have ix:=ZS (o:=c) hil
  have ld:=QC (l:=L c) hil σ
  simp only [pI] at ld
  have eb:(!inR ((L c).getD i 0) 0 7)=bA ((L c).getD i 0):=rfl
  rw [f28_L0_eq Qb rfl,e0,List.any_cons]
  cases hb:bA ((L c).getD i 0) with
  | true=>simp (disch:=omega) only [N,ZZ,gP,QO,cs_0 g1,QZ,Qn,ltT,gG,ix,QF,ld,S57i,eb,hb,Bool.true_or,if_true]
  | false=>
   simp (disch:=omega) only [N,ZZ,gP,QO,cs_0 g1,QZ,Qn,ltT,gG,ix,QF,ld,S57i,eb,hb,Bool.false_or,add1]
   exact ih
theorem S28 (hl:(L c).length<=1000) (σ:Qa):Qv CC 28 [.agg (eGr g),.agg (eCs c)] σ=some (.p (pI (Jc g c))):=by
 have g0:([Row.mix (eGr g),.mix (eCs c)]:Qa)[0]?=some (.mix (eGr g)):=rfl
 have g1:([Row.mix (eGr g),.mix (eCs c)]:Qa)[1]?=some (.mix (eCs c)):=rfl
 have h:=L28 g1 hl _ 0 rfl (Nat.zero_le _)
 rw [List.drop_zero] at h
 refine Qk (by simp [Zz,VI]) rfl (F28_call (r:=(.p (pI (Jc g c)),[.mix (eGr g),.mix (eCs c)])) ?_) rfl
 rw [F28_eq]
 unfold Jc
 by_cases h1:(L c).length=(L g.edges).length
 ·have q:((L c).length:Int)=((L g.edges).length:Nat):=by omega
  simp only [Zr,WF,gG,List.length_nil,List.nil_append,List.length_cons,List.cons_append,ZZ,Zg,gP,QO,Zc,cs_0 g1,Qc (off:=2) g0 (v:=.p (eEs g.edges)) rfl,QZ,Ww,Wh,eqT q,if_pos h1]
  exact h
 ·have q:¬ ((L c).length:Int)=((L g.edges).length:Nat):=by omega
  simp only [Zr,WF,gG,List.length_nil,List.nil_append,List.length_cons,List.cons_append,ZZ,Zg,gP,QO,Zc,cs_0 g1,Qc (off:=2) g0 (v:=.p (eEs g.edges)) rfl,QZ,Ww,Wh,eqF q,if_neg h1]
theorem s54:size? PP 54=some 1:=Eq.trans (by kernel_rfl) rfl
theorem bld54 (a:PV):build PP 54 [(0,.p a)]=some (.agg [.p a]):=Eq.trans (by kernel_rfl) rfl
theorem S26 (hl:(L c).length<=1000) (σ:Qa):Qv CC 26 [.agg (eCs c)] σ=some (.agg (eCs (some (L c)))):=by
 have g0:([Row.mix (eCs c),.mix [.p .nilsl]]:Qa)[0]?=some (.mix (eCs c)):=rfl
 refine Qk (by simp [VI]) rfl (F26_call (r:=(.agg (eCs (some (L c))),[.mix (eCs c),.mix (eCs (some (L c)))])) ?_) ?_
 ·have hst:store PP 0 54 (.ptr 1 0) (.agg (eCs (some (L c)))) [.mix (eCs c),.mix [.p .nilsl]]=some [.mix (eCs c),.mix (eCs (some (L c)))]:=by
   have e:(DV.agg (eCs (some (L c)))).cells=eCs (some (L c)):=rfl
   have e2:(eCs (some (L c))).length=1:=rfl
   have e3:(eCs (some (L c))).all DV.one=true:=rfl
   have e4:QS [DV.p .nilsl] 0 (eCs (some (L c)))=eCs (some (L c)):=rfl
   simp [store,s54,e,e2,Zo,e3,e4]
  have g1:([Row.mix (eCs c),.mix (eCs (some (L c)))]:Qa)[1]?=some (.mix (eCs (some (L c)))):=rfl
  have hcv:Vy PP 54 (.ptr 1 0) [.mix (eCs c),.mix (eCs (some (L c)))]=some (.agg (eCs (some (L c)))):=by
   rw [WA,UF g1]
  have hown:DV.agg [.p (eSl (some (L c)))]=.agg (eCs (some (L c))):=rfl
  rw [F26_eq]
  simp only [WF,zero54,gG,List.length_nil,List.nil_append,List.length_cons,List.cons_append,ZZ,gP,QO,cs_0 g0,S16 hl,bld54,hown,hst,hcv]
 ·simp [Ze,Zx,eCs,mapO,thaw,Uu,Vv,ZO]
theorem S25e (hi:(L g.init).length<=1000) (he:(L g.edges).length<=10000) (hl:(L c).length<=1000) (h0:errC g c≠0) (σ:Qa) :
  Qv CC 25 [.agg (eGr g),.agg (eCs c)] σ=some (.tuple [.agg (eAx zAx),.p (.int .i64 (errC g c))]):=by
 have g0:([Row.mix (eGr g),.mix (eCs c),.mix [.p (pI 0),.p .nilsl,.p .nilsl,.p .nilsl,.p .nilsl]]:Qa)[0]?=some (.mix (eGr g)):=rfl
 have g1:([Row.mix (eGr g),.mix (eCs c),.mix [.p (pI 0),.p .nilsl,.p .nilsl,.p .nilsl,.p .nilsl]]:Qa)[1]?=some (.mix (eCs c)):=rfl
 have g2:([Row.mix (eGr g),.mix (eCs c),.mix [.p (pI 0),.p .nilsl,.p .nilsl,.p .nilsl,.p .nilsl]]:Qa)[2]?=some (.mix [.p (pI 0),.p .nilsl,.p .nilsl,.p .nilsl,.p .nilsl]):=rfl
 have h65:=S65 hi he hl [Row.mix (eGr g),.mix (eCs c),.mix [.p (pI 0),.p .nilsl,.p .nilsl,.p .nilsl,.p .nilsl]]
 simp only [pI] at h65
 have hst:=st33 (c:=eAx zAx) g2 rfl rfl rfl
 have hld1:load PP 54 (.ptr 1 0) [Row.mix (eGr g),.mix (eCs c),.mix [.p (pI 0),.p .nilsl,.p .nilsl,.p .nilsl,.p .nilsl]]=some (.agg (eCs c)):=by rw [load54,QI (vs:=eCs c) g1 rfl (by simp [eCs])]; rfl
 have hg2:(([Row.mix (eGr g),.mix (eCs c),.mix [.p (pI 0),.p .nilsl,.p .nilsl,.p .nilsl,.p .nilsl]]:Qa).set 2 (.mix (eAx zAx)))[2]?=some (.mix (eAx zAx)):=rfl
 have hcv:Vy PP 33 (.ptr 2 0) (([Row.mix (eGr g),.mix (eCs c),.mix [.p (pI 0),.p .nilsl,.p .nilsl,.p .nilsl,.p .nilsl]]:Qa).set 2 (.mix (eAx zAx)))=some (.agg (eAx zAx)):=by
  rw [WA,VE hg2]
 refine Qk (by simp [Zz,VI]) rfl (F25_call (r:=(.tuple [.agg (eAx zAx),.p (.int .i64 (errC g c))],([Row.mix (eGr g),.mix (eCs c),.mix [.p (pI 0),.p .nilsl,.p .nilsl,.p .nilsl,.p .nilsl]]:Qa).set 2 (.mix (eAx zAx)))) ?_) rfl
 ·rw [F25_eq]
  simp only [pI] at h65 hst hld1 hcv
  simp only [Zr,WF,Ut,gG,List.length_nil,List.nil_append,List.length_cons,List.cons_append,gP,Wy g0,hld1,h65,Wh,eqF h0,bld33_0,hst,hcv]
theorem S25 (hg:GOk g) (hc:COk g c) (hn:g.n<=8) (he:(L g.edges).length<=16) (h0:errC g c=0) (σ:Qa) :
  ∃ B E',ExtG g.n (fun x=>oE (mvS g c x)) (iniS g) B E'/\Qv CC 25 [.agg (eGr g),.agg (eCs c)] σ=some (.tuple [.agg (eAx (mkX B (nums B (iniS g)) E')),.p (.int .i64 0)]):=by
 have hil:=VB hg
 have hnn:=hg.n0
 have hcl:=hc.cl
 have g0:([Row.mix (eGr g),.mix (eCs c),.mix [.p (pI 0),.p .nilsl,.p .nilsl,.p .nilsl,.p .nilsl]]:Qa)[0]?=some (.mix (eGr g)):=rfl
 have g1:([Row.mix (eGr g),.mix (eCs c),.mix [.p (pI 0),.p .nilsl,.p .nilsl,.p .nilsl,.p .nilsl]]:Qa)[1]?=some (.mix (eCs c)):=rfl
 have g2:([Row.mix (eGr g),.mix (eCs c),.mix [.p (pI 0),.p .nilsl,.p .nilsl,.p .nilsl,.p .nilsl]]:Qa)[2]?=some (.mix [.p (pI 0),.p .nilsl,.p .nilsl,.p .nilsl,.p .nilsl]):=rfl
 have h65:=S65 (g:=g) (c:=c) (by omega) (by omega) (by omega) [Row.mix (eGr g),.mix (eCs c),.mix [.p (pI 0),.p .nilsl,.p .nilsl,.p .nilsl,.p .nilsl]]
 rw [h0] at h65
 have hld1:load PP 54 (.ptr 1 0) [Row.mix (eGr g),.mix (eCs c),.mix [.p (pI 0),.p .nilsl,.p .nilsl,.p .nilsl,.p .nilsl]]=some (.agg (eCs c)):=by rw [load54,QI (vs:=eCs c) g1 rfl (by simp [eCs])]; rfl
 obtain ⟨B,E',ix,ex,bx,ax,σ',r,m,a1,a2,a3,a4,a5,a6,a7⟩:=S66 hg hc hn he [Row.mix (eGr g),.mix (eCs c),.mix [.p (pI 0),.p .nilsl,.p .nilsl,.p .nilsl,.p .nilsl]]
 have hm2:σ'[2]?=some (.mix [.p (pI 0),.p .nilsl,.p .nilsl,.p .nilsl,.p .nilsl]):=(a4 2 (by simp)).trans g2
 have hone5:([.p (pI B.length),ix,ex,bx,ax]:List DV).all DV.one=true:=by
  simp [(VS a3.re).1,(rowG_one a3.ri).1,(QQ a3.ob).1,(QQ a3.oa).1]
  rfl
 have hone6:([.p (pI B.length),ix,ex,bx,ax,.map r]:List DV).all DV.one=true:=by
  simp [(VS a3.re).1,(rowG_one a3.ri).1,(QQ a3.ob).1,(QQ a3.oa).1]
  exact ⟨rfl,rfl⟩
 have hs1:store PP 0 95 (.ptr σ'.length 0) (.agg [.p (pI B.length),ix,ex,bx,ax,.map r]) (σ'++[Row.mix [.p (pI 0),.p .nilsl,.p .nilsl,.p .nilsl,.p .nilsl,.p .nilmap]])=some (σ'++[Row.mix [.p (pI B.length),ix,ex,bx,ax,.map r]]):=by
  rw [st95 QB rfl rfl hone6,List.set_append_right _ _ (Nat.le_refl _),Nat.sub_self]
  rfl
 have gl:(σ'++[Row.mix [.p (pI B.length),ix,ex,bx,ax,.map r]])[σ'.length]?=some (.mix [.p (pI B.length),ix,ex,bx,ax,.map r]):=QB
 have hl33:load PP 33 (.ptr σ'.length 0) (σ'++[Row.mix [.p (pI B.length),ix,ex,bx,ax,.map r]])=some (.agg [.p (pI B.length),ix,ex,bx,ax]):=by
  rw [load33,QI (vs:=[.p (pI B.length),ix,ex,bx,ax]) gl rfl (by simp)]; rfl
 have hm2':(σ'++[Row.mix [.p (pI B.length),ix,ex,bx,ax,.map r]])[2]?=some (.mix [.p (pI 0),.p .nilsl,.p .nilsl,.p .nilsl,.p .nilsl]):=QM hm2
 have hs2:=st33 (c:=[.p (pI B.length),ix,ex,bx,ax]) hm2' rfl rfl hone5
 have hg2:((σ'++[Row.mix [.p (pI B.length),ix,ex,bx,ax,.map r]]).set 2 (.mix [.p (pI B.length),ix,ex,bx,ax]))[2]?=some (.mix [.p (pI B.length),ix,ex,bx,ax]):=by rw [List.getElem?_set_self (QT hm2')]
 have hcv:Vy PP 33 (.ptr 2 0) ((σ'++[Row.mix [.p (pI B.length),ix,ex,bx,ax,.map r]]).set 2 (.mix [.p (pI B.length),ix,ex,bx,ax]))=some (.agg [.p (pI B.length),ix,ex,bx,ax]):=by
  rw [WA,load33,QI (vs:=[.p (pI B.length),ix,ex,bx,ax]) hg2 rfl (by simp)]; rfl
 have hgr:=(a3.snoc (.mix [.p (pI B.length),ix,ex,bx,ax,.map r])).setLow (q:=2) (by simp) (.mix [.p (pI B.length),ix,ex,bx,ax])
 refine ⟨B,E',a2,Qk (by simp [Zz,VI]) rfl (F25_call (r:=(.tuple [.agg [.p (pI B.length),ix,ex,bx,ax],.p (.int .i64 0)],(σ'++[Row.mix [.p (pI B.length),ix,ex,bx,ax,.map r]]).set 2 (.mix [.p (pI B.length),ix,ex,bx,ax]))) ?_) (hgr.val 0)⟩
 rw [F25_eq]
 simp only [pI] at h65 hld1 a1
 have e0:decide ((0:Int)=0)=true:=rfl
 simp only [Zr,WF,Ut,gG,List.length_nil,List.nil_append,List.length_cons,List.cons_append,gP,Wy g0,hld1,h65,Wh,e0,Qq,a1,ex0,ex1,zero95',hs1,UR,hl33,hs2,hcv]
end
end Go.D.StS
end
/- Chapter 22: the reference of stuttering. -/
section
set_option linter.unusedVariables false
set_option linter.unusedSimpArgs false
namespace Go.D.StS
open Go.D.Srt
def l0S (g:Gr):List Int:=(iniS g).map pr
def tkS (f:Int) (m:Nat):List Edg:=(List.range m).map fun (k:Nat)=>(⟨pr (f,(k:Int)+2),pr (f,(k:Int)+1),11⟩:Edg)
def rowS (g:Gr) (c:OI) (i:Nat):List Edg:=
 if (L c).getD i 0=0 then [⟨pr ((gE (L g.edges) i).f,0),pr ((gE (L g.edges) i).t,0),(gE (L g.edges) i).a⟩]
 else [⟨pr ((gE (L g.edges) i).f,0),pr ((gE (L g.edges) i).f,(L c).getD i 0),11⟩,⟨pr ((gE (L g.edges) i).f,1),pr ((gE (L g.edges) i).t,0),(gE (L g.edges) i).a⟩]++tkS (gE (L g.edges) i).f ((L c).getD i 0-1).toNat
def qS (g:Gr) (c:OI) (k:Nat):List Edg:=(List.range k).flatMap (rowS g c)
theorem tkS_succ (f:Int) (m:Nat):tkS f (m+1)=tkS f m++[⟨pr (f,(m:Int)+2),pr (f,(m:Int)+1),11⟩]:=by
 unfold tkS; rw [List.range_succ,List.map_append]; rfl
theorem qS_succ (g:Gr) (c:OI) (k:Nat):qS g c (k+1)=qS g c k++rowS g c k:=by
 unfold qS; rw [List.range_succ,List.flatMap_append]; simp
theorem mem_tkS {f:Int} {m:Nat} {e:Edg}:e∈tkS f m↔∃ k:Int,2<=k/\k<(m:Int)+2/\e=⟨pr (f,k),pr (f,k-1),11⟩:=by
 unfold tkS
 rw [List.mem_map]
 constructor
 ·rintro ⟨k,hk,rfl⟩
  rw [List.mem_range] at hk
  exact ⟨(k:Int)+2,by omega,by omega,by rw [show (k:Int)+2-1=(k:Int)+1 by omega]⟩
 ·rintro ⟨k,h1,h2,rfl⟩
  exact ⟨(k-2).toNat,List.mem_range.2 (by omega),by rw [show (((k-2).toNat:Nat):Int)=k-2 by omega,show k-2+2=k by omega,show k-2+1=k-1 by omega]⟩
theorem VU {g:Gr} {c:OI} {i:Nat} {e:Edg} (h0:0<=(L c).getD i 0):e∈rowS g c i↔((L c).getD i 0=0/\e=⟨pr ((gE (L g.edges) i).f,0),pr ((gE (L g.edges) i).t,0),(gE (L g.edges) i).a⟩)\/
  (0<(L c).getD i 0/\(e=⟨pr ((gE (L g.edges) i).f,0),pr ((gE (L g.edges) i).f,(L c).getD i 0),11⟩\/e=⟨pr ((gE (L g.edges) i).f,1),pr ((gE (L g.edges) i).t,0),(gE (L g.edges) i).a⟩\/∃ k:Int,2<=k/\k<=(L c).getD i 0/\e=⟨pr ((gE (L g.edges) i).f,k),pr ((gE (L g.edges) i).f,k-1),11⟩)):=by
 unfold rowS
 by_cases h1:(L c).getD i 0=0
 ·rw [if_pos h1,List.mem_singleton]
  constructor
  ·exact fun h=>.inl ⟨h1,h⟩
  ·rintro (h | h)
   ·exact h.2
   ·omega
 ·rw [if_neg h1,List.mem_append,mem_tkS]
  have hm:(((L c).getD i 0-1).toNat:Int)=(L c).getD i 0-1:=by omega
  rw [hm]
  simp only [List.mem_cons,List.not_mem_nil,or_false]
  constructor
  ·rintro ((h | h) | ⟨k,h2,h3,h4⟩)
   ·exact .inr ⟨by omega,.inl h⟩
   ·exact .inr ⟨by omega,.inr (.inl h)⟩
   ·exact .inr ⟨by omega,.inr (.inr ⟨k,h2,by omega,h4⟩)⟩
  ·rintro (h | ⟨_,h | h | ⟨k,h2,h3,h4⟩⟩)
   ·exact absurd h.1 h1
   ·exact .inl (.inl h)
   ·exact .inl (.inr h)
   ·exact .inr ⟨k,h2,by omega,h4⟩
theorem mem_qS {g:Gr} {c:OI} {e:Edg} {k:Nat}:e∈qS g c k↔∃ i,i<k/\e∈rowS g c i:=by
 unfold qS
 rw [List.mem_flatMap]
 constructor
 ·rintro ⟨i,hi,he⟩; exact ⟨i,List.mem_range.1 hi,he⟩
 ·rintro ⟨i,hi,he⟩; exact ⟨i,List.mem_range.2 hi,he⟩
theorem bs106_2 (e e':Edg) (σ:Qa):buildSlice PP none 106 2 [(0,.agg (edgD e)),(1,.agg (edgD e'))] σ=some (.p (.sl true 2 (eEdg e++eEdg e')),σ):=Eq.trans (by kernel_rfl) rfl
section
variable {g : Gr} {c : OI} (hg : GOk g) (hc : COk g c) (hn : g.n <= 30) (he : (L g.edges).length <= 120)
include hg hc
omit hg in
theorem rowS_len {i:Nat} (hi:i<(L g.edges).length):(rowS g c i).length<=8:=by
 have hv:=hc.cv i (by rw [hc.cl]; exact hi)
 unfold rowS
 split
 ·simp
 ·rw [List.length_append]
  simp only [tkS,List.length_map,List.length_range,List.length_cons,List.length_nil]
  omega
omit hg in
theorem qS_len:∀ k,k<=(L g.edges).length->(qS g c k).length<=8*k
 | 0,_=>Nat.le_refl 0
 | k+1,h=>by
  have h1:=qS_len k (by omega)
  have h2:=rowS_len hc (i:=k) (by omega)
  rw [qS_succ,List.length_append]
  omega
include hn
omit hc in
theorem rs_L0:∀ (d k:Nat) (y:DV) (σ:Qa),(L g.init).length-k=d->k<=(L g.init).length->σ[0]?=some (.mix (eGr g))->σ[1]?=some (.mix (eCs c))->σ[2]?=some (.mix Z5)->Out σ 3 1 k (Qr ((l0S g).take k)) y->
  ∃ y' σ',f29_L0 Qb 0 (.ptr 0 0) (.ptr 1 0) (.ptr 2 0) y (.p .nilsl) (N k) σ=f29_L1 Qb 0 (.ptr 0 0) (.ptr 1 0) (.ptr 2 0) y' (.p .nilsl) (N 0) σ'/\σ'[0]?=some (.mix (eGr g))/\σ'[1]?=some (.mix (eCs c))/\σ'[2]?=some (.mix Z5)/\Out σ' 3 1 (l0S g).length (Qr (l0S g)) y'
 | 0,k,y,σ,hd,hk,g0,g1,g2,ho=>by
  have e2:(l0S g).length=(L g.init).length:=by simp [l0S,iniS]
  have e:k=(L g.init).length:=by omega
  have hil:=VB hg
  subst e
  refine ⟨y,σ,?_,g0,g1,g2,?_⟩
  ·rw [f29_L0_eq Qb rfl]
   simp (disch:=omega) only [N,WE,gP,QO,Qc (off:=1) g0 (v:=.p (eSl g.init)) rfl,QZ,Qn,ltF,gG]
   rfl
  ·rw [e2]
   rwa [List.take_of_length_le (by omega)] at ho
 | d+1,k,y,σ,hd,hk,g0,g1,g2,ho=>by
  have hkl:k<(L g.init).length:=by omega
  have e2:(l0S g).length=(L g.init).length:=by simp [l0S,iniS]
  have hv:=hg.il _ (List.getElem_mem hkl)
  have hil:=VB hg
  generalize hs:(L g.init)[k]=s at *
  have ix:=ZS (o:=g.init) (i:=k) hkl
  have ldk:∀ σ,ZX (.pptr (Qr (L g.init)) k) σ=some (.p (.int .i64 s)):=fun σ=>by rw [ZG hkl,hs]
  have h59:=S59 (s:=s) (v:=0) (by omega) (by decide) σ
  obtain ⟨y1,σ1,p1,p2,p3,p4⟩:=Out.pushG (lo:=0) (vs:=[pI (pr (s,0))]) UI u22 s3 VO Uy rfl (by decide) (by decide) (by decide) rfl ho (by omega) (QT g2) (Nat.zero_le _)
  have e1:Qr ((l0S g).take k)++[pI (pr (s,0))]=Qr ((l0S g).take (k+1)):=by
   rw [List.take_succ_eq_append_getElem (by omega)]
   simp [l0S,iniS,hs,Qr]
  rw [e1] at p2
  have km:∀ (j:Nat) (cs:List DV),σ[j]?=some (Row.mix cs)->σ1[j]?=some (Row.mix cs):=fun j cs e=>Others.mix p3 ho e (fun v e=>by cases e)
  obtain ⟨y',σ',r1,r2⟩:=rs_L0 d (k+1) y1 σ1 (by omega) (by omega) (km _ _ g0) (km _ _ g1) (km _ _ g2) p2
  refine ⟨y',σ',?_,r2⟩
  rw [<-r1,f29_L0_eq Qb rfl]
  simp (disch:=omega) only [N,WE,gP,QO,Qc (off:=1) g0 (v:=.p (eSl g.init)) rfl,QZ,Qn,ltT,gG,ix,QF,ldk,h59,Vs,p1,add1]
omit hg hc hn in
theorem Out.push2 {σ:Qa} {B n:Nat} {cs vs:List PV} {x:DV} (hv:vs.length=6) (ho:Out σ B 3 n cs x) (hn:n<=10000000) (hB:B<=σ.length) :
  ∃ x' σ',append PP 0 false 106 106 x (.p (.sl true 2 vs)) σ=some (x',σ')/\Out σ' B 3 (n+2) (cs++vs) x'/\Others σ σ' x:=by
 have hsrc:ZE σ 3 (.p (.sl true 2 vs))=some (2,vs.map DV.p):=by simp [ZE,hv]
 obtain ⟨hc,ho⟩:=ho
 rcases ho with ⟨rfl,rfl⟩ | ⟨hn0,r,ver,rfl,hr,hl⟩
 ·refine ⟨.osl σ.length 0 3 2 vs,σ++[.tok 0],?_,⟨by simp [hc,hv],.inr ⟨by simp,σ.length,0,?_,QB,hB⟩⟩,?_⟩
  ·simp only [append,src106,u106,s109,bytes109,zero109,hsrc,Um]
   simp [ZN]
  ·have:cs=[]:=List.length_eq_zero_iff.1 (by simpa using hc)
   rw [this]; simp
  ·intro i row hi _
   exact QM hi
 ·refine ⟨.osl r (ver+1) 3 (n+2) (cs++vs),σ.set r (.tok (ver+1)),?_,⟨by simp [hc,hv]; omega,.inr ⟨by simp,r,ver+1,rfl,?_,hl⟩⟩,?_⟩
  ·have e1:(n+2)*24<=140737488355328:=by omega
   have e2:n+2<=140737488355328:=by omega
   simp only [append,src106,u106,s109,bytes109,zero109,hsrc,Ux]
   simp [e1,e2,hc,hr,ZN]
  ·rw [List.getElem?_set_self (QT hr)]
  ·intro i row hi hne
   rw [List.getElem?_set_ne (fun e=>hne _ _ _ _ _ rfl e.symm)]
   exact hi
include he
omit hn in
theorem rs_L2 {k r:Nat} (hk:k<(L g.edges).length) {y5:DV} (h0:0<(L c).getD k 0) (hn:g.n<=30):∀ (d m:Nat) (y:DV) (σ:Qa) (acc:List Edg),((L c).getD k 0-1).toNat-m=d->(m:Int)+1<=(L c).getD k 0->acc.length<=10000->σ[0]?=some (.mix (eGr g))->σ[1]?=some (.mix (eCs c))->σ[2]?=some (.mix Z5)->σ[r]?=some (.mix (edgD (gE (L g.edges) k)))->Out σ 3 3 (acc++tkS (gE (L g.edges) k).f m).length (Zd (acc++tkS (gE (L g.edges) k).f m)) y->
  ∃ y' σ',f29_L2 Qb 0 (.ptr 0 0) (.ptr 1 0) (.ptr 2 0) y5 y (N k) (.ptr r 0) (.p (.int .i64 ((m:Int)+2))) σ=f29_L1 Qb 0 (.ptr 0 0) (.ptr 1 0) (.ptr 2 0) y5 y' (N (k+1)) σ'/\σ'[0]?=some (.mix (eGr g))/\σ'[1]?=some (.mix (eCs c))/\σ'[2]?=some (.mix Z5)/\
   Out σ' 3 3 (acc++tkS (gE (L g.edges) k).f ((L c).getD k 0-1).toNat).length (Zd (acc++tkS (gE (L g.edges) k).f ((L c).getD k 0-1).toNat)) y'
 | 0,m,y,σ,acc,hd,hm,hacc,g0,g1,g2,g3,ho=>by
  have hv:=hc.cv k (by rw [hc.cl]; exact hk)
  have e:m=((L c).getD k 0-1).toNat:=by omega
  have ixc:=ZS (o:=c) (i:=k) (by rw [hc.cl]; exact hk)
  have ldc:=QC (l:=L c) (i:=k) (by rw [hc.cl]; exact hk) σ
  simp only [pI] at ldc
  have hle:¬ ((m:Int)+2<=(L c).getD k 0):=by omega
  refine ⟨y,σ,?_,g0,g1,g2,by rw [<-e]; exact ho⟩
  rw [f29_L2_eq Qb rfl]
  simp (disch:=omega) only [N,ZZ,gP,QO,cs_0 g1,ixc,QF,ldc,QX,leF hle,gG,f29_J0_eq,add1]
 | d+1,m,y,σ,acc,hd,hm,hacc,g0,g1,g2,g3,ho=>by
  have hv:=hc.cv k (by rw [hc.cl]; exact hk)
  have hE:=hg.el _ (List.getElem_mem hk)
  rw [<-Vw hk] at hE
  have ixc:=ZS (o:=c) (i:=k) (by rw [hc.cl]; exact hk)
  have ldc:=QC (l:=L c) (i:=k) (by rw [hc.cl]; exact hk) σ
  simp only [pI] at ldc
  have hle:((m:Int)+2<=(L c).getD k 0):=by omega
  have lf:=Qc (off:=0) g3 (v:=.p (.int .i64 (gE (L g.edges) k).f)) rfl
  have h59a:=S59 (s:=(gE (L g.edges) k).f) (v:=(m:Int)+2) (by omega) (by omega) σ
  have h59b:=S59 (s:=(gE (L g.edges) k).f) (v:=(m:Int)+1) (by omega) (by omega) σ
  have sb:binOp PP .sub 3 (.p (.int .i64 ((m:Int)+2))) (.p (.int .i64 1))=some (.p (.int .i64 ((m:Int)+1))):=by
   rw [WD,QE (by omega) (by omega),show (m:Int)+2-1=(m:Int)+1 by omega]
  have ad:binOp PP .add 3 (.p (.int .i64 ((m:Int)+2))) (.p (.int .i64 1))=some (.p (.int .i64 (((m+1:Nat):Int)+2))):=by
   rw [Wa,QE (by omega) (by omega),show (m:Int)+2+1=((m+1:Nat):Int)+2 by omega]
  have htl:(tkS (gE (L g.edges) k).f m).length=m:=by simp [tkS]
  obtain ⟨y1,σ1,p1,p2,p3,p4⟩:=Out.pushG (lo:=0) (vs:=eEdg ⟨pr ((gE (L g.edges) k).f,(m:Int)+2),pr ((gE (L g.edges) k).f,(m:Int)+1),11⟩) src106 u106 s109 bytes109 zero109 rfl (by decide) (by decide) (by decide) rfl ho (by rw [List.length_append]; omega) (QT g2) (Nat.zero_le _)
  rw [eEdgs_snoc,List.append_assoc,<-tkS_succ,show (acc++tkS (gE (L g.edges) k).f m).length+1=(acc++tkS (gE (L g.edges) k).f (m+1)).length by rw [tkS_succ]; simp; omega] at p2
  have km:∀ (j:Nat) (cs:List DV),σ[j]?=some (Row.mix cs)->σ1[j]?=some (Row.mix cs):=fun j cs e=>Others.mix p3 ho e (fun v e=>by cases e)
  obtain ⟨y',σ',r1,r2⟩:=rs_L2 hk (y5:=y5) h0 hn d (m+1) y1 σ1 acc (by omega) (by omega) hacc (km _ _ g0) (km _ _ g1) (km _ _ g2) (km _ _ g3) p2
  refine ⟨y',σ',?_,r2⟩
  rw [<-r1,f29_L2_eq Qb rfl]
  simp (disch:=omega) only [N,ZZ,gP,QO,cs_0 g1,ixc,QF,ldc,QX,leT hle,gG,VY,lf,h59a,sb,h59b,bld109,bs106,p1,ad]
theorem rs_L1 {y5:DV}:∀ (d k:Nat) (y:DV) (σ:Qa),(L g.edges).length-k=d->k<=(L g.edges).length->σ[0]?=some (.mix (eGr g))->σ[1]?=some (.mix (eCs c))->σ[2]?=some (.mix Z5)->Out σ 3 3 (qS g c k).length (Zd (qS g c k)) y->
  ∃ y' σ',f29_L1 Qb 0 (.ptr 0 0) (.ptr 1 0) (.ptr 2 0) y5 y (N k) σ=f29_L1 Qb 0 (.ptr 0 0) (.ptr 1 0) (.ptr 2 0) y5 y' (N (L g.edges).length) σ'/\σ'[0]?=some (.mix (eGr g))/\σ'[1]?=some (.mix (eCs c))/\σ'[2]?=some (.mix Z5)/\Out σ' 3 3 (qS g c (L g.edges).length).length (Zd (qS g c (L g.edges).length)) y'
 | 0,k,y,σ,hd,hk,g0,g1,g2,ho=>by
  have e:k=(L g.edges).length:=by omega
  subst e
  exact ⟨y,σ,rfl,g0,g1,g2,ho⟩
 | d+1,k,y,σ,hd,hk,g0,g1,g2,ho=>by
  have hkl:k<(L g.edges).length:=by omega
  have hv:=hc.cv k (by rw [hc.cl]; exact hkl)
  have hE:=hg.el _ (List.getElem_mem hkl)
  rw [<-Vw hkl] at hE
  have hql:=qS_len hc k (by omega)
  have ixe:=Uq (o:=g.edges) (i:=k) hkl
  have hsn:=stN69 (lo:=0) (σ:=σ) (gE (L g.edges) k) (Nat.zero_le _)
  have v0:(σ++[Row.mix (edgD (gE (L g.edges) k))])[0]?=some (.mix (eGr g)):=QM g0
  have v1:(σ++[Row.mix (edgD (gE (L g.edges) k))])[1]?=some (.mix (eCs c)):=QM g1
  have v2:(σ++[Row.mix (edgD (gE (L g.edges) k))])[2]?=some (.mix Z5):=QM g2
  have v3:(σ++[Row.mix (edgD (gE (L g.edges) k))])[σ.length]?=some (.mix (edgD (gE (L g.edges) k))):=QB
  have vo:=Out.snocM ho (.mix (edgD (gE (L g.edges) k)))
  have ixc:=ZS (o:=c) (i:=k) (by rw [hc.cl]; exact hkl)
  have ldc:=QC (l:=L c) (i:=k) (by rw [hc.cl]; exact hkl) (σ++[Row.mix (edgD (gE (L g.edges) k))])
  simp only [pI] at ldc
  have ld0:=ld69 hkl σ
  have lE:=Qc (off:=2) g0 (v:=.p (eEs g.edges)) rfl
  generalize hσ1:σ++[Row.mix (edgD (gE (L g.edges) k))]=σ1 at *
  have lf:=Qc (off:=0) v3 (v:=.p (.int .i64 (gE (L g.edges) k).f)) rfl
  have lt:=Qc (off:=1) v3 (v:=.p (.int .i64 (gE (L g.edges) k).t)) rfl
  have la:=Qc (off:=2) v3 (v:=.p (.int .i64 (gE (L g.edges) k).a)) rfl
  have h59a:=S59 (s:=(gE (L g.edges) k).f) (v:=0) (by omega) (by decide) σ1
  have h59b:=S59 (s:=(gE (L g.edges) k).t) (v:=0) (by omega) (by decide) σ1
  by_cases h0:(L c).getD k 0=0
  ·obtain ⟨y1,σ2,p1,p2,p3,p4⟩:=Out.pushG (lo:=0) (vs:=eEdg ⟨pr ((gE (L g.edges) k).f,0),pr ((gE (L g.edges) k).t,0),(gE (L g.edges) k).a⟩) src106 u106 s109 bytes109 zero109 rfl (by decide) (by decide) (by decide) rfl vo (by omega) (QT v2) (Nat.zero_le _)
   have er:rowS g c k=[⟨pr ((gE (L g.edges) k).f,0),pr ((gE (L g.edges) k).t,0),(gE (L g.edges) k).a⟩]:=by unfold rowS; rw [if_pos h0]
   rw [eEdgs_snoc,<-er,<-qS_succ,show (qS g c k).length+1=(qS g c (k+1)).length by rw [qS_succ,er]; simp] at p2
   have km:∀ (j:Nat) (cs:List DV),σ1[j]?=some (Row.mix cs)->σ2[j]?=some (Row.mix cs):=fun j cs e=>Others.mix p3 vo e (fun v e=>by cases e)
   obtain ⟨y',σ',r1,r2⟩:=rs_L1 (y5:=y5) d (k+1) y1 σ2 (by omega) (by omega) (km _ _ v0) (km _ _ v1) (km _ _ v2) p2
   refine ⟨y',σ',?_,r2⟩
   rw [<-r1,f29_L1_eq Qb rfl]
   simp (maxSteps:=1000000) (disch:=omega) only [N,Zg,gP,Zc,lE,Ww,Qn,ltT,gG,ixe,UC,ld0,Us,hsn,hσ1,ZZ,QO,cs_0 v1,ixc,QF,ldc,QV,eqT h0,VY,VN,VD,lf,lt,la,h59a,h59b,bld109,bs106,p1,f29_J0_eq,add1]
  ·have hp:0<(L c).getD k 0:=by omega
   have h59c:=S59 (s:=(gE (L g.edges) k).f) (v:=(L c).getD k 0) (by omega) hv σ1
   have h59d:=S59 (s:=(gE (L g.edges) k).f) (v:=1) (by omega) (by decide) σ1
   obtain ⟨y1,σ2,p1,p2,p3⟩:=Out.push2 (vs:=eEdg ⟨pr ((gE (L g.edges) k).f,0),pr ((gE (L g.edges) k).f,(L c).getD k 0),11⟩++eEdg ⟨pr ((gE (L g.edges) k).f,1),pr ((gE (L g.edges) k).t,0),(gE (L g.edges) k).a⟩) rfl vo (by omega) (QT v2)
   have er:rowS g c k=[⟨pr ((gE (L g.edges) k).f,0),pr ((gE (L g.edges) k).f,(L c).getD k 0),11⟩,⟨pr ((gE (L g.edges) k).f,1),pr ((gE (L g.edges) k).t,0),(gE (L g.edges) k).a⟩]++tkS (gE (L g.edges) k).f ((L c).getD k 0-1).toNat:=by unfold rowS; rw [if_neg h0]
   rw [<-List.append_assoc,eEdgs_snoc,eEdgs_snoc] at p2
   have km:∀ (j:Nat) (cs:List DV),σ1[j]?=some (Row.mix cs)->σ2[j]?=some (Row.mix cs):=fun j cs e=>Others.mix p3 vo e (fun v e=>by cases e)
   have et:tkS (gE (L g.edges) k).f 0=[]:=rfl
   obtain ⟨y2,σ3,b1,b2,b3,b4,b5⟩:=rs_L2 hg hc he hkl (r:=σ.length) (y5:=y5) hp hn _ 0 y1 σ2 (qS g c k++[⟨pr ((gE (L g.edges) k).f,0),pr ((gE (L g.edges) k).f,(L c).getD k 0),11⟩]++[⟨pr ((gE (L g.edges) k).f,1),pr ((gE (L g.edges) k).t,0),(gE (L g.edges) k).a⟩]) rfl (by omega) (by simp; omega) (km _ _ v0) (km _ _ v1) (km _ _ v2) (km _ _ v3)
    (by rw [et,List.append_nil]; simp only [List.length_append,List.length_cons,List.length_nil] at p2 ⊢; exact p2)
   have eq2:(qS g c k++[⟨pr ((gE (L g.edges) k).f,0),pr ((gE (L g.edges) k).f,(L c).getD k 0),11⟩]++[⟨pr ((gE (L g.edges) k).f,1),pr ((gE (L g.edges) k).t,0),(gE (L g.edges) k).a⟩])++tkS (gE (L g.edges) k).f ((L c).getD k 0-1).toNat=qS g c (k+1):=by
    rw [qS_succ,er]; simp
   rw [eq2] at b5
   obtain ⟨y',σ',r1,r2⟩:=rs_L1 (y5:=y5) d (k+1) y2 σ3 (by omega) (by omega) b2 b3 b4 b5
   have e2:(.p (.int .i64 2):DV)=.p (.int .i64 (((0:Nat):Int)+2)):=rfl
   rw [<-e2] at b1
   simp only [N] at b1
   refine ⟨y',σ',?_,r2⟩
   rw [<-r1,f29_L1_eq Qb rfl]
   simp (maxSteps:=1000000) (disch:=omega) only [N,Zg,gP,Zc,lE,Ww,Qn,ltT,gG,ixe,UC,ld0,Us,hsn,hσ1,ZZ,QO,cs_0 v1,ixc,QF,ldc,QV,eqF h0,VY,VN,VD,lf,lt,la,h59a,h59b,h59c,h59d,bld109,bs106_2]
   have p1':append PP 0 false 106 106 y (.p (.sl true 2 (eEdg ⟨pr ((gE (L g.edges) k).f,0),pr ((gE (L g.edges) k).f,(L c).getD k 0),11⟩++eEdg ⟨pr ((gE (L g.edges) k).f,1),pr ((gE (L g.edges) k).t,0),(gE (L g.edges) k).a⟩))) σ1=some (y1,σ2):=p1
   simp only [p1',gG,b1]
theorem mvOkS:MvOk (l0S g) (qS g c (L g.edges).length):=by
 have hil:=VB hg
 have hnn:=hg.n0
 have hql:=qS_len hc (L g.edges).length (Nat.le_refl _)
 refine ⟨fun v hv=>?_,fun e hq=>?_,?_,by omega⟩
 ·unfold l0S at hv
  rw [List.mem_map] at hv
  obtain ⟨x,hx,rfl⟩:=hv
  have:=iniS_in hg x hx
  unfold InS at this
  unfold pr
  omega
 ·rw [mem_qS] at hq
  obtain ⟨i,hi,hq⟩:=hq
  have hE:=hg.el _ (List.getElem_mem hi)
  rw [<-Vw hi] at hE
  have hv:=hc.cv i (by rw [hc.cl]; exact hi)
  rcases (VU hv.1).1 hq with ⟨h1,rfl⟩ | ⟨h1,rfl | rfl | ⟨k,h2,h3,rfl⟩⟩ <;> (unfold pr; simp only; omega)
 ·have e2:(l0S g).length=(L g.init).length:=by simp [l0S,iniS]
  omega
theorem S29:∃ S,S.length=240/\(∀ v,0<=v->v<240->(SD S v=true↔RchB (l0S g) (qS g c (L g.edges).length) v))/\∀ σ,Qv CC 29 [.agg (eGr g),.agg (eCs c)] σ=some (.agg (eAx (refX S (l0S g) (qS g c (L g.edges).length)))):=by
 have hmo:=mvOkS hg hc hn he
 obtain ⟨S,hS,hs,h60⟩:=S60 (o:=oI (l0S g)) (q:=oE (qS g c (L g.edges).length)) (by rw [L_oI,L_oE]; exact hmo)
 rw [L_oI,L_oE] at hs h60
 refine ⟨S,hS,hs,fun σ=>?_⟩
 obtain ⟨y5,σ1,a1,a2,a3,a4,a5⟩:=rs_L0 (c:=c) hg hn _ 0 (.p .nilsl) [Row.mix (eGr g),.mix (eCs c),.mix Z5] rfl (Nat.zero_le _) rfl rfl rfl Out.zero
 obtain ⟨y6,σ2,b1,b2,b3,b4,b5⟩:=rs_L1 hg hc hn he (y5:=y5) _ 0 (.p .nilsl) σ1 rfl (Nat.zero_le _) a2 a3 a4 Out.zero
 have v5:view y5=.p (eSl (oI (l0S g))):=by rw [Out.vw a5,oI_val]
 have v6:view y6=.p (eEs (oE (qS g c (L g.edges).length))):=by rw [Out.vw b5,oE_val]
 have h60':Qv CC 60 [y5,y6] σ2=some (.agg (eAx (refX S (l0S g) (qS g c (L g.edges).length)))):=by
  rw [Wc (args':=[.p (eSl (oI (l0S g))),.p (eEs (oE (qS g c (L g.edges).length)))]) (by simp [v5,v6]) (by simp [Zf,es_view])]
  exact h60 σ2
 have hst:=st33 (c:=eAx (refX S (l0S g) (qS g c (L g.edges).length))) b4 rfl rfl rfl
 have hg2:(σ2.set 2 (.mix (eAx (refX S (l0S g) (qS g c (L g.edges).length)))))[2]?=some (.mix (eAx (refX S (l0S g) (qS g c (L g.edges).length)))):=by rw [List.getElem?_set_self (QT b4)]
 have hz:Qx PP 33=some Z5:=Ut
 refine Qk (by simp [Zz,VI]) rfl (F29_call (r:=(.agg (eAx (refX S (l0S g) (qS g c (L g.edges).length))),σ2.set 2 (.mix (eAx (refX S (l0S g) (qS g c (L g.edges).length)))))) ?_) (by simp [Ze,Zx,eAx,mapO,thaw,Uu,Vv,Zs,ZO,WU])
 rw [F29_eq]
 simp only [Zr,WF,hz,gG,List.length_nil,List.nil_append,List.length_cons,List.cons_append]
 refine a1.trans (b1.trans ?_)
 rw [f29_L1_eq Qb rfl]
 simp (disch:=omega) only [N,Zg,gP,Zc,Qc (off:=2) b2 (v:=.p (eEs g.edges)) rfl,Ww,Qn,ltF,gG,h60',hst,WA,VE hg2]
end
def RS (g:Gr) (c:OI) (x:E):Prop:=InS g.n x/\(x.2>=1->∃ j,j<(L g.edges).length/\(gE (L g.edges) j).f=x.1/\x.2<=(L c).getD j 0)
theorem RS_step {g:Gr} {c:OI} (hg:GOk g) (hc:COk g c) {x:E} (hx:RS g c x) {e:Edg} (he:e∈mvS g c x):RS g c (toE e):=by
 refine ⟨mvS_in hg hc hx.1 he,fun h=>?_⟩
 rcases ZW.1 he with ⟨h1,rfl⟩ | ⟨_,j,h1,h2,h3⟩
 ·obtain ⟨j,k1,k2,k3⟩:=hx.2 (by omega)
  exact ⟨j,k1,k2,by unfold toE; simp only; omega⟩
 ·rcases WH.1 h3 with ⟨_,rfl⟩ | ⟨_,rfl⟩
  ·unfold toE at h; simp only at h; omega
  ·exact ⟨j,h1,h2,by unfold toE; simp only; omega⟩
theorem ext_RS {g:Gr} {c:OI} {B:List E} {E':List Edg} (hg:GOk g) (hc:COk g c) (hx:ExtG g.n (fun x=>oE (mvS g c x)) (iniS g) B E'):∀ x∈B,RS g c x:=fun x hxB=>by
 refine groM_sound (M:=fun x=>oE (mvS g c x)) (R:=RS g c) (fun y hy e he=>by rw [L_oE] at he; exact RS_step hg hc hy he) 64 0 (Zk [] (iniS g)) (fun y hy=>?_) x (hx.pb.mem_iff.1 hxB)
 rcases (Wt _ _ _).1 hy with h1 | h1
 ·exact absurd h1 (by simp)
 ·refine ⟨iniS_in hg y h1,fun h=>?_⟩
  unfold iniS at h1
  rw [List.mem_map] at h1
  obtain ⟨s,_,rfl⟩:=h1
  simp only at h
  omega
theorem refOkS {g:Gr} {c:OI} {B:List E} (hg:GOk g) (hc:COk g c) (hB:∀ x∈B,RS g c x):RefOk g.n B (fun x=>oE (mvS g c x)) (iniS g) (l0S g) (qS g c (L g.edges).length):=by
 refine ⟨fun v=>?_,fun x hxB m a=>?_,fun e hq=>?_⟩
 ·unfold l0S
  rw [List.mem_map]
  exact ⟨fun ⟨x,h1,h2⟩=>⟨x,h1,h2.symm⟩,fun ⟨x,h1,h2⟩=>⟨x,h1,h2.symm⟩⟩
 ·obtain ⟨hx,hx2⟩:=hB x hxB
  unfold InS at hx
  rw [mem_qS]
  constructor
  ·rintro ⟨i,hi,e⟩
   have hv:=hc.cv i (by rw [hc.cl]; exact hi)
   have hE:=hg.el _ (List.getElem_mem hi)
   rw [<-Vw hi] at hE
   rcases (VU hv.1).1 e with ⟨h1,e⟩ | ⟨h1,e | e | ⟨k,h2,h3,e⟩⟩ <;> (simp only [Edg.mk.injEq] at e; obtain ⟨e1,e2,e3⟩:=e; unfold pr at e1; simp only at e1)
   ·have q1:(gE (L g.edges) i).f=x.1:=by omega
    have q2:x.2=0:=by omega
    refine ⟨⟨(gE (L g.edges) i).t,0,(gE (L g.edges) i).a⟩,?_,e2,e3⟩
    rw [L_oE,ZW]
    exact .inr ⟨by omega,i,hi,q1,WH.2 (.inl ⟨.inr ⟨q2,h1⟩,rfl⟩)⟩
   ·have q1:(gE (L g.edges) i).f=x.1:=by omega
    have q2:x.2=0:=by omega
    refine ⟨⟨x.1,(L c).getD i 0,11⟩,?_,by rw [e2,q1]; rfl,e3⟩
    rw [L_oE,ZW]
    exact .inr ⟨by omega,i,hi,q1,WH.2 (.inr ⟨⟨q2,by omega⟩,rfl⟩)⟩
   ·have q1:(gE (L g.edges) i).f=x.1:=by omega
    have q2:x.2=1:=by omega
    refine ⟨⟨(gE (L g.edges) i).t,0,(gE (L g.edges) i).a⟩,?_,e2,e3⟩
    rw [L_oE,ZW]
    exact .inr ⟨by omega,i,hi,q1,WH.2 (.inl ⟨.inl ⟨q2,h1⟩,rfl⟩)⟩
   ·have q1:(gE (L g.edges) i).f=x.1:=by omega
    have q2:x.2=k:=by omega
    refine ⟨⟨x.1,x.2-1,11⟩,?_,by rw [e2,q1,q2]; rfl,e3⟩
    rw [L_oE,ZW]
    exact .inl ⟨by omega,rfl⟩
  ·rintro ⟨e,he2,rfl,rfl⟩
   rw [L_oE] at he2
   rcases ZW.1 he2 with ⟨h1,rfl⟩ | ⟨h1,j,h2,h3,h4⟩
   ·obtain ⟨j,k1,k2,k3⟩:=hx2 (by omega)
    have hv:=hc.cv j (by rw [hc.cl]; exact k1)
    refine ⟨j,k1,(VU hv.1).2 (.inr ⟨by omega,.inr (.inr ⟨x.2,by omega,k3,?_⟩)⟩)⟩
    rw [k2]; rfl
   ·have hv:=hc.cv j (by rw [hc.cl]; exact h2)
    rcases WH.1 h4 with ⟨h5,rfl⟩ | ⟨h5,rfl⟩
    ·rcases h5 with ⟨h5,h6⟩ | ⟨h5,h6⟩
     ·refine ⟨j,h2,(VU hv.1).2 (.inr ⟨h6,.inr (.inl ?_)⟩)⟩
      rw [h3,<-h5]; rfl
     ·refine ⟨j,h2,(VU hv.1).2 (.inl ⟨h6,?_⟩)⟩
      rw [h3]
      have ex:x=(x.1,0):=Prod.ext rfl h5
      show (⟨pr x,pr ((gE (L g.edges) j).t,0),(gE (L g.edges) j).a⟩:Edg)=⟨pr (x.1,0),pr ((gE (L g.edges) j).t,0),(gE (L g.edges) j).a⟩
      rw [<-ex]
    ·refine ⟨j,h2,(VU hv.1).2 (.inr ⟨by omega,.inl ?_⟩)⟩
     rw [h3,<-h5.1]; rfl
 ·rw [mem_qS] at hq
  obtain ⟨i,hi,hq⟩:=hq
  have hE:=hg.el _ (List.getElem_mem hi)
  rw [<-Vw hi] at hE
  have hv:=hc.cv i (by rw [hc.cl]; exact hi)
  rcases (VU hv.1).1 hq with ⟨h1,rfl⟩ | ⟨h1,rfl | rfl | ⟨k,h2,h3,rfl⟩⟩
  ·exact ⟨((gE (L g.edges) i).f,0),⟨hE.1,by simp only; omega⟩,rfl⟩
  ·exact ⟨((gE (L g.edges) i).f,0),⟨hE.1,by simp only; omega⟩,rfl⟩
  ·exact ⟨((gE (L g.edges) i).f,1),⟨hE.1,by simp only; omega⟩,rfl⟩
  ·exact ⟨((gE (L g.edges) i).f,k),⟨hE.1,by simp only; omega⟩,rfl⟩
end Go.D.StS
end
/- Chapter 22: paths lifted by a stuttering variable. -/
section
set_option linter.unusedVariables false
set_option linter.unusedSimpArgs false
namespace Go.D.StS
open Go.D.Srt
def cS (g:Gr) (c:OI) (p:List Int) (k:Nat):Nat:=((L c).getD (sI g p k) 0).toNat
def cdl (s:Int):Nat->List E
 | 0=>[]
 | m+1=>(s,((m+1:Nat):Int))::cdl s m
def slS (g:Gr) (c:OI) (p:List Int):Nat->List E
 | 0=>[(p.getD 0 0,0)]
 | k+1=>slS g c p k++cdl (p.getD k 0) (cS g c p k)++[(p.getD (k+1) 0,0)]
theorem cdl_len (s:Int):∀ m,(cdl s m).length=m
 | 0=>rfl
 | m+1=>by rw [cdl,List.length_cons,cdl_len s m]
theorem nums_snoc (B l:List E) (e:E):Qr (nums B l)++[pI ((B.idxOf e:Nat):Int)]=Qr (nums B (l++[e])):=by simp [nums,Qr]
section
variable {g : Gr} {c : OI} {B : List E} {E' : List Edg} {p : List Int} (hg : GOk g) (hc : COk g c) (hx : ExtG g.n (fun x => oE (mvS g c x)) (iniS g) B E') (hp : PthOk g p)
include hg hc hx hp
omit hg in
theorem su_mem:∀ k,k<p.length->(p.getD k 0,0)∈B/\(k+1<p.length->∀ i:Nat,1<=i->i<=cS g c p k->(p.getD k 0,(i:Int))∈B):=by
 have ticks:∀ k,k+1<p.length->(p.getD k 0,0)∈B->∀ d i:Nat,cS g c p k-i=d->1<=i->i<=cS g c p k->(p.getD k 0,(i:Int))∈B:=fun k hk hm d=>by
  obtain ⟨h1,h2,h3,h4⟩:=Jo hp hk
  have hv:=hc.cv (sI g p k) (by rw [hc.cl]; exact h1)
  induction d with
  | zero=>
   intro i hd h5 h6
   have e:i=cS g c p k:=by omega
   have ec:((cS g c p k:Nat):Int)=(L c).getD (sI g p k) 0:=by unfold cS; omega
   have:=hx.cl _ hm ⟨p.getD k 0,(L c).getD (sI g p k) 0,11⟩ (by
    rw [L_oE,ZW]
    exact .inr ⟨by simp,sI g p k,h1,h3,WH.2 (.inr ⟨⟨rfl,by omega⟩,rfl⟩)⟩)
   rw [e,ec]; exact this
  | succ d ih=>
   intro i hd h5 h6
   have h7:=ih (i+1) (by omega) (by omega) (by omega)
   have:=hx.cl _ h7 ⟨p.getD k 0,(((i+1:Nat):Int))-1,11⟩ (by
    rw [L_oE,ZW]
    exact .inl ⟨by simp only; omega,rfl⟩)
   have e:((i:Nat):Int)=((i+1:Nat):Int)-1:=by omega
   rw [e]; exact this
 intro k
 induction k with
 | zero=>
  intro hk
  have h0:(p.getD 0 0,0)∈B:=hx.beg _ (by unfold iniS; rw [List.mem_map]; exact ⟨_,hp.ini,rfl⟩)
  exact ⟨h0,fun hk1 i h1 h2=>ticks 0 hk1 h0 _ i rfl h1 h2⟩
 | succ k ih=>
  intro hk
  obtain ⟨i1,i2⟩:=ih (by omega)
  obtain ⟨h1,h2,h3,h4⟩:=Jo hp hk
  have hv:=hc.cv (sI g p k) (by rw [hc.cl]; exact h1)
  have h0:(p.getD (k+1) 0,0)∈B:=by
   by_cases hz:(L c).getD (sI g p k) 0=0
   ·have:=hx.cl _ i1 ⟨(gE (L g.edges) (sI g p k)).t,0,(gE (L g.edges) (sI g p k)).a⟩ (by
     rw [L_oE,ZW]
     exact .inr ⟨by simp,sI g p k,h1,h3,WH.2 (.inl ⟨.inr ⟨rfl,hz⟩,rfl⟩)⟩)
    rw [<-h4]; exact this
   ·have h5:=i2 hk 1 (Nat.le_refl 1) (by unfold cS; omega)
    have:=hx.cl _ h5 ⟨(gE (L g.edges) (sI g p k)).t,0,(gE (L g.edges) (sI g p k)).a⟩ (by
     rw [L_oE,ZW]
     exact .inr ⟨by simp,sI g p k,h1,h3,WH.2 (.inl ⟨.inl ⟨rfl,by omega⟩,rfl⟩)⟩)
    rw [<-h4]; exact this
  exact ⟨h0,fun hk1 i h1 h2=>ticks (k+1) hk1 h0 _ i rfl h1 h2⟩
omit hg hx in
theorem cS_le {k:Nat} (hk:k+1<p.length):cS g c p k<=7:=by
 obtain ⟨h1,_⟩:=Jo hp hk
 have hv:=hc.cv (sI g p k) (by rw [hc.cl]; exact h1)
 unfold cS
 omega
omit hg hx in
theorem slS_len:∀ k,k<p.length->(slS g c p k).length<=8*k+1
 | 0,_=>Nat.le_refl 1
 | k+1,h=>by
  have h1:=slS_len k (by omega)
  have h2:=cS_le hc hp h
  rw [slS,List.length_append,List.length_append,cdl_len]
  simp only [List.length_cons,List.length_nil]
  omega
end
section
variable {g : Gr} {c : OI} {B : List E} {E' : List Edg} {o : OI} (hg : GOk g) (hc : COk g c) (hx : ExtG g.n (fun x => oE (mvS g c x)) (iniS g) B E') (hp : PthOk g (L o))
theorem L27_1 {m c0 q:Nat} {mp:List (E×Int)} {cs:List DV} (hmp:∀ e∈B,(WW mp e).getD 0=((B.idxOf e:Nat):Int)) (hcs:cs[5]?=some (.map q)) {s t:Int} (ht:((t,0):E)∈B) {k:Nat} (hk:k<=10000) (x2 x3 x4 x46 x47:DV):∀ (n:Nat) (acc:List E) (y:DV) (σ:Qa),(∀ i:Nat,1<=i->i<=n->((s,(i:Int)):E)∈B)->acc.length+n<=10000->σ[m]?=some (.mix cs)->σ[q]?=some (.map (entZ mp))->LO σ c0 acc.length (Qr (nums B acc)) y->c0<=σ.length->n<=1000->
  ∃ y1 σ1,f27_L1 Qb 0 x2 x3 x4 (.ptr m 0) y (.p (.int .i64 t)) (.p (.int .i64 s)) (.p (.int .i64 (n:Nat))) x46 x47 (N k) σ=f27_L0 Qb 0 x2 x3 x4 (.ptr m 0) y1 x46 x47 (N (k+1)) σ1/\
   LO σ1 c0 (acc++cdl s n++[(t,0)]).length (Qr (nums B (acc++cdl s n++[(t,0)]))) y1/\(∀ (j:Nat) (row:Row),(∀ ver,row≠.tok ver)->σ[j]?=some row->σ1[j]?=some row)/\c0<=σ1.length
 | 0,acc,y,σ,hs,hl,gm,gq,ho,hc0,hn=>by
  have hlk:=lookZ0 gq (t,0)
  rw [hmp _ ht] at hlk
  obtain ⟨y1,σ1,p1,p2,p3,p4⟩:=ho.push (by omega) hc0 (pI ((B.idxOf ((t,0):E):Nat):Int))
  rw [nums_snoc] at p2
  refine ⟨y1,σ1,?_,by simpa [cdl] using p2,p3,p4⟩
  rw [f27_L1_eq Qb rfl]
  simp (disch:=omega) only [N,Zh,gtF,gG,UD,gP,UB,Qc (off:=5) gm hcs,Uw,hlk,Vs,p1,add1]
 | n+1,acc,y,σ,hs,hl,gm,gq,ho,hc0,hn=>by
  have hlk:=lookZ0 gq (s,((n+1:Nat):Int))
  rw [hmp _ (hs (n+1) (by omega) (Nat.le_refl _))] at hlk
  obtain ⟨y1,σ1,p1,p2,p3,p4⟩:=ho.push (by omega) hc0 (pI ((B.idxOf ((s,((n+1:Nat):Int)):E):Nat):Int))
  rw [nums_snoc] at p2
  have hla:(acc++[((s,((n+1:Nat):Int)):E)]).length=acc.length+1:=by simp
  rw [<-hla] at p2
  obtain ⟨y2,σ2,r1,r2,r3,r4⟩:=L27_1 hmp hcs ht hk x2 x3 x4 x46 x47 n (acc++[(s,((n+1:Nat):Int))]) y1 σ1 (fun i h1 h2=>hs i h1 (by omega)) (by omega) (p3 _ _ (fun v e=>by cases e) gm) (p3 _ _ (fun v e=>by cases e) gq) p2 p4 (by omega)
  have ec:acc++[((s,((n+1:Nat):Int)):E)]++cdl s n=acc++cdl s (n+1):=by rw [cdl]; simp
  rw [ec] at r2
  have sb:binOp PP .sub 3 (.p (.int .i64 ((n+1:Nat):Int))) (.p (.int .i64 1))=some (.p (.int .i64 (n:Nat))):=by
   rw [WD,QE (by omega) (by omega),show ((n+1:Nat):Int)-1=(n:Nat) by omega]
  have hgt:((n+1:Nat):Int)>0:=by omega
  refine ⟨y2,σ2,?_,r2,fun j row hr h=>r3 j row hr (p3 j row hr h),r4⟩
  rw [<-r1,f27_L1_eq Qb rfl]
  simp (disch:=omega) only [N,Zh,gtT hgt,gG,UD,gP,UB,Qc (off:=5) gm hcs,Uw,hlk,Vs,p1,sb]
include hg hc hx hp
theorem L27 {m c0 q:Nat} {mp:List (E×Int)} {cs:List DV} (hmp:∀ e∈B,(WW mp e).getD 0=((B.idxOf e:Nat):Int)) (hcs:cs[5]?=some (.map q)) :
  ∀ (d k:Nat) (y:DV) (σ:Qa),(L o).length-1-k=d->k+1<=(L o).length->σ[0]?=some (.mix (eGr g))->σ[1]?=some (.mix (eCs c))->σ[m]?=some (.mix cs)->σ[q]?=some (.map (entZ mp))->LO σ c0 (slS g c (L o) k).length (Qr (nums B (slS g c (L o) k))) y->c0<=σ.length->
  ∃ y' σ',f27_L0 Qb 0 (.p (eSl o)) (.ptr 0 0) (.ptr 1 0) (.ptr m 0) y (.p (eSl (some ((L o).drop 1)))) (N ((L o).length-1)) (N k) σ=some (.tuple [y',.p (.int .i64 0)],σ')/\LO σ' c0 (slS g c (L o) ((L o).length-1)).length (Qr (nums B (slS g c (L o) ((L o).length-1)))) y'
 | 0,k,y,σ,hd,hk,g0,g1,g2,g3,ho,hc0=>by
  have e:k=(L o).length-1:=by omega
  have hle:=hp.le
  refine ⟨y,σ,?_,by rw [<-e]; exact ho⟩
  rw [f27_L0_eq Qb rfl]
  simp (disch:=omega) only [N,Qn,ltF,gG]
 | d+1,k,y,σ,hd,hk,g0,g1,g2,g3,ho,hc0=>by
  have hkl:k+1<(L o).length:=by omega
  have hle:=hp.le
  obtain ⟨w1,w2,w3,w4⟩:=Jo hp hkl
  have hv:=hc.cv (sI g (L o) k) (by rw [hc.cl]; exact w1)
  have hdl:(L (some ((L o).drop 1))).length=(L o).length-1:=by simp [L]
  have ix1:=ZS (o:=some ((L o).drop 1)) (i:=k) (by omega)
  have ld1:=QC (l:=L (some ((L o).drop 1))) (i:=k) (by omega) σ
  have ed:(L (some ((L o).drop 1))).getD k 0=(L o).getD (k+1) 0:=by simp [L,List.getD_eq_getElem?_getD,Nat.add_comm]
  rw [ed] at ld1
  have ix2:=ZS (o:=o) (i:=k) (by omega)
  have ld2:=QC (l:=L o) (i:=k) (by omega) σ
  have he2:=hg.e0
  have h55:=S55 (g:=g) (s:=(L o).getD k 0) (t:=(L o).getD (k+1) 0) (σ:=σ) (by omega)
  rw [w2] at h55
  simp only [pI] at ld1 ld2 h55
  have g0':load PP 25 (.ptr 0 0) σ=some (.agg (eGr g)):=by rw [UN,QI (vs:=eGr g) g0 rfl (by simp [eGr])]; rfl
  have ixc:=ZS (o:=c) (i:=sI g (L o) k) (by rw [hc.cl]; exact w1)
  have ldc:=QC (l:=L c) (i:=sI g (L o) k) (by rw [hc.cl]; exact w1) σ
  simp only [pI] at ldc
  have ec:(L c).getD (sI g (L o) k) 0=((cS g c (L o) k:Nat):Int):=by unfold cS; omega
  rw [ec] at ldc
  have hsl:=slS_len hc hp k (by omega)
  have hcl:=cS_le hc hp hkl
  obtain ⟨m1,m2⟩:=su_mem hc hx hp k (by omega)
  obtain ⟨m3,_⟩:=su_mem hc hx hp (k+1) hkl
  obtain ⟨y1,σ1,b1,b2,b3,b4⟩:=L27_1 hmp hcs m3 (k:=k) (by omega) (.p (eSl o)) (.ptr 0 0) (.ptr 1 0) (.p (eSl (some ((L o).drop 1)))) (N ((L o).length-1)) (cS g c (L o) k) (slS g c (L o) k) y σ (m2 hkl) (by omega) g2 g3 ho hc0 (by omega)
  have es:slS g c (L o) k++cdl ((L o).getD k 0) (cS g c (L o) k)++[((L o).getD (k+1) 0,0)]=slS g c (L o) (k+1):=rfl
  rw [es] at b2
  obtain ⟨y',σ',r1,r2⟩:=L27 hmp hcs d (k+1) y1 σ1 (by omega) (by omega) (b3 _ _ (fun v e=>by cases e) g0) (b3 _ _ (fun v e=>by cases e) g1) (b3 _ _ (fun v e=>by cases e) g2) (b3 _ _ (fun v e=>by cases e) g3) b2 b4
  refine ⟨y',σ',?_,r2⟩
  simp only [N] at b1 r1
  rw [<-r1,<-b1,f27_L0_eq Qb rfl]
  simp (disch:=omega) only [N,Qn,ltT,gG,ix1,QF,ld1,ix2,ld2,ZZ,gP,QO,cs_0 g1,g0',h55,ixc,ldc]
end
section
variable {g : Gr} {c : OI} {o : OI}
theorem S27e (hi:(L g.init).length<=1000) (he:(L g.edges).length<=10000) (hl:(L c).length<=1000) (h0:errC g c≠0) (σ:Qa) :
  Qv CC 27 [.agg (eGr g),.agg (eCs c),.p (eSl o)] σ=some (.tuple [.p .nilsl,.p (.int .i64 (errC g c))]):=by
 have h65:=S65 hi he hl [Row.mix (eGr g),.mix (eCs c)]
 simp only [pI] at h65
 have hld1:load PP 54 (.ptr 1 0) [Row.mix (eGr g),.mix (eCs c)]=some (.agg (eCs c)):=UF rfl
 have hld0:load PP 25 (.ptr 0 0) [Row.mix (eGr g),.mix (eCs c)]=some (.agg (eGr g)):=Wy rfl
 refine Qk (by simp [Zz,VI,Zf]) rfl (F27_call (r:=(.tuple [.p .nilsl,.p (.int .i64 (errC g c))],[Row.mix (eGr g),.mix (eCs c)])) ?_) rfl
 rw [F27_eq]
 simp only [Zr,WF,gG,List.length_nil,List.nil_append,List.length_cons,List.cons_append,gP,hld0,hld1,h65,Wh,eqF h0]
section
variable (hg:GOk g) (hc:COk g c) (hn:g.n<=8) (he:(L g.edges).length<=16) (h0:errC g c=0) (hol:(L o).length<=1000)
include hg hc hn he h0 hol
theorem S27 (σ:Qa):∃ B E',ExtG g.n (fun x=>oE (mvS g c x)) (iniS g) B E'/\
  Qv CC 27 [.agg (eGr g),.agg (eCs c),.p (eSl o)] σ=some (if pthE g (L o)=0 then .tuple [.p (eSl (some (nums B (slS g c (L o) ((L o).length-1))))),.p (.int .i64 0)] else .tuple [.p .nilsl,.p (.int .i64 (pthE g (L o)))]):=by
 have hil:=VB hg
 have hnn:=hg.n0
 have hcl:=hc.cl
 have h65:=S65 (g:=g) (c:=c) (by omega) (by omega) (by omega) [Row.mix (eGr g),.mix (eCs c)]
 rw [h0] at h65
 simp only [pI] at h65
 have hld1:load PP 54 (.ptr 1 0) [Row.mix (eGr g),.mix (eCs c)]=some (.agg (eCs c)):=UF rfl
 have hld0:load PP 25 (.ptr 0 0) [Row.mix (eGr g),.mix (eCs c)]=some (.agg (eGr g)):=Wy rfl
 obtain ⟨B,E',ix,ex,bx,ax,σ1,r,mp,a1,a2,a3,a4,a5,a6,a7⟩:=S66 hg hc hn he [Row.mix (eGr g),.mix (eCs c)]
 simp only [pI] at a1
 have g0:σ1[0]?=some (.mix (eGr g)):=(a4 0 (by simp)).trans rfl
 have g1:σ1[1]?=some (.mix (eCs c)):=(a4 1 (by simp)).trans rfl
 have hlen:6<=σ1.length:=a7
 have hone6:([.p (.int .i64 (B.length:Nat)),ix,ex,bx,ax,.map r]:List DV).all DV.one=true:=by
  simp [(VS a3.re).1,(rowG_one a3.ri).1,(QQ a3.ob).1,(QQ a3.oa).1]
  exact ⟨rfl,rfl⟩
 have hs1:store PP 0 95 (.ptr σ1.length 0) (.agg [.p (.int .i64 (B.length:Nat)),ix,ex,bx,ax,.map r]) (σ1++[Row.mix [.p (.int .i64 0),.p .nilsl,.p .nilsl,.p .nilsl,.p .nilsl,.p .nilmap]])=some (σ1++[Row.mix [.p (.int .i64 (B.length:Nat)),ix,ex,bx,ax,.map r]]):=by
  rw [st95 QB rfl rfl hone6,List.set_append_right _ _ (Nat.le_refl _),Nat.sub_self]
  rfl
 have zero95i:Qx PP 95=some [.p (.int .i64 0),.p .nilsl,.p .nilsl,.p .nilsl,.p .nilsl,.p .nilmap]:=zero95'
 have k0:(σ1++[Row.mix [.p (.int .i64 (B.length:Nat)),ix,ex,bx,ax,.map r]])[0]?=some (.mix (eGr g)):=QM g0
 have k1:(σ1++[Row.mix [.p (.int .i64 (B.length:Nat)),ix,ex,bx,ax,.map r]])[1]?=some (.mix (eCs c)):=QM g1
 have km:(σ1++[Row.mix [.p (.int .i64 (B.length:Nat)),ix,ex,bx,ax,.map r]])[σ1.length]?=some (.mix [.p (.int .i64 (B.length:Nat)),ix,ex,bx,ax,.map r]):=QB
 have kr:(σ1++[Row.mix [.p (.int .i64 (B.length:Nat)),ix,ex,bx,ax,.map r]])[r]?=some (.map (entZ mp)):=QM a5
 have hrl:=QT a5
 have h54:=S54 (g:=g) (o:=o) (σ:=σ1++[Row.mix [.p (.int .i64 (B.length:Nat)),ix,ex,bx,ax,.map r]]) hol (by omega) (by omega)
 simp only [pI] at h54
 have hl2:(σ1++[Row.mix [.p (.int .i64 (B.length:Nat)),ix,ex,bx,ax,.map r]]).length=σ1.length+1:=by simp
 have hgl:=Wy k0
 generalize hσ2:σ1++[Row.mix [.p (.int .i64 (B.length:Nat)),ix,ex,bx,ax,.map r]]=σ2 at *
 have e0:decide ((0:Int)=0)=true:=rfl
 refine ⟨B,E',a2,?_⟩
 have h53:Qv CC 53 [.p (.sl true 2 (Qr [0,pthE g (L o)]))] σ2=some (.p (.int .i64 (pthE g (L o)))):=by
  rw [h53_2]
  simp [orL]
  exact fun h=>h.symm
 by_cases hp0:pthE g (L o)=0
 ·rw [if_pos hp0]
  have hp:=pth_ok hg hp0
  have hne:=hp.ne
  have hle:=hp.le
  have hi0:=hp.inr 0 (by omega)
  rw [hp0] at h53 h54
  have ix0:=ZS (o:=o) (i:=0) (by omega)
  have ld0:=QC (l:=L o) (i:=0) (by omega) σ2
  simp only [pI] at ld0
  have hol2:∃ l,o=some l:=by
   cases o with
   | none=>exact absurd hne (by simp [L])
   | some l=>exact ⟨l,rfl⟩
  have bld:build PP 102 [(0,.p (.int .i64 ((L o).getD 0 0))),(1,.p (.int .i64 0))]=some (val ((L o).getD 0 0,0)):=Uw _ _
  have hmp:∀ e∈B,(WW mp e).getD 0=((B.idxOf e:Nat):Int):=fun e heB=>by
   obtain ⟨w1,w2⟩:=ZK heB
   have:=a6 _ w1
   rw [w2] at this
   rw [this]; rfl
  have hlk:=lookZ0 kr ((L o).getD 0 0,0)
  rw [hmp _ (su_mem hc a2 hp 0 (by omega)).1] at hlk
  have hlo:LO σ2 (σ1.length+1) (slS g c (L o) 0).length (Qr (nums B (slS g c (L o) 0))) (.p (.sl true 1 (Qr (nums B (slS g c (L o) 0))))):=.inl ⟨rfl,rfl,Nat.one_ne_zero⟩
  obtain ⟨y,σ',b1,b2⟩:=L27 hg hc a2 hp (m:=σ1.length) (c0:=σ1.length+1) (q:=r) (mp:=mp) (cs:=[.p (.int .i64 (B.length:Nat)),ix,ex,bx,ax,.map r]) hmp rfl _ 0 (.p (.sl true 1 (Qr (nums B (slS g c (L o) 0))))) σ2 rfl (by omega) k0 k1 km kr hlo (by omega)
  have e00:(DV.p (.int .i64 0))=.p (.int .i64 ((0:Nat):Int)):=rfl
  have hsl1:Zy PP 22 (.p (eSl o)) (some (.p (.int .i64 1))) none none=some (.p (eSl (some ((L o).drop 1)))):=by
   obtain ⟨l,rfl⟩:=hol2
   exact slice1L (by simp only [L,Option.getD_some] at hne; omega)
  have hln:∀ σ,len PP 22 (.p (eSl (some ((L o).drop 1)))) σ=some (N ((L o).length-1)):=fun σ=>by rw [QZ]; simp [L]
  refine Qk (by simp [Zz,VI,Zf]) rfl (F27_call (r:=(.tuple [y,.p (.int .i64 0)],σ')) ?_) ?_
  ·rw [F27_eq]
   simp only [Zr,WF,gG,List.length_nil,List.nil_append,List.length_cons,List.cons_append,gP,hld0,hld1,h65,Wh,e0,Qq,a1,ex0,ex1,zero95i,hs1,hgl,h54,bs143_2i,h53,UD,UB,Qc (off:=5) km (v:=.map r) rfl]
   have ix0':=ix0
   rw [<-e00] at ix0'
   simp only [gG,ix0',QF,ld0,bld,hlk,Vs,hsl1,hln]
   exact b1
  ·rw [ta_tup]
   have:=b2.all (σ':=σ') (m:=0)
   simp only [mapO,this.2.2,tp_int,Option.map_some]
 ·rw [if_neg hp0]
  refine Qk (by simp [Zz,VI,Zf]) rfl (F27_call (r:=(.tuple [.p .nilsl,.p (.int .i64 (pthE g (L o)))],σ2)) ?_) rfl
  rw [F27_eq]
  simp only [Zr,WF,gG,List.length_nil,List.nil_append,List.length_cons,List.cons_append,gP,hld0,hld1,h65,Wh,e0,Qq,a1,ex0,ex1,zero95i,hs1,hgl,h54,bs143_2i,h53,eqF hp0]
end
end
end Go.D.StS
end
/- Chapter 22: the reference's lift by a stuttering variable; lifted paths hidden again. -/
section
set_option linter.unusedVariables false
set_option linter.unusedSimpArgs false
namespace Go.D.StS
open Go.D.Srt
theorem gEF {a b:Int} (h:¬ a>=b):decide (a>=b)=false:=decide_eq_false h
theorem gET {a b:Int} (h:a>=b):decide (a>=b)=true:=decide_eq_true h
section
variable {g : Gr} {c : OI} {B : List E} {E' : List Edg} {o : OI} (hg : GOk g) (hc : COk g c) (hx : ExtG g.n (fun x => oE (mvS g c x)) (iniS g) B E') (hp : PthOk g (L o))
include hx
theorem L30_1 {x:Ax} (hb:L x.b=B.map Prod.fst) (ha:L x.a=B.map Prod.snd) (hBl:B.length<=1000) {k:Nat} (hk:k+1<(L o).length) (hol:(L o).length<=1000) (ht:(((L o).getD (k+1) 0,0):E)∈B):∀ (n:Nat) (acc:List E) (y:DV) (σ:Qa),(∀ i:Nat,1<=i->i<=n->(((L o).getD k 0,(i:Int)):E)∈B)->acc.length+n<=10000->σ[0]?=some (.mix (eGr g))->σ[1]?=some (.mix (eCs c))->σ[2]?=some (.mix (eAx x))->LO σ 3 acc.length (Qr (nums B acc)) y->n<=1000->
  ∃ y1 σ1,f30_L1 Qb 0 (.p (eSl o)) (.ptr 0 0) (.ptr 1 0) (.ptr 2 0) y (N (k+1)) (.p (.int .i64 (n:Nat))) σ=f30_L0 Qb 0 (.p (eSl o)) (.ptr 0 0) (.ptr 1 0) (.ptr 2 0) y1 (N (k+1+1)) σ1/\
   LO σ1 3 (acc++cdl ((L o).getD k 0) n++[((L o).getD (k+1) 0,0)]).length (Qr (nums B (acc++cdl ((L o).getD k 0) n++[((L o).getD (k+1) 0,0)]))) y1/\σ1[0]?=some (.mix (eGr g))/\σ1[1]?=some (.mix (eCs c))/\σ1[2]?=some (.mix (eAx x))
 | 0,acc,y,σ,hs,hl,g0,g1,g2,ho,hn=>by
  have h64:Qv CC 64 [.agg (eAx x),.p (.int .i64 ((L o).getD (k+1) 0)),.p (.int .i64 0)] σ=some (.p (.int .i64 (B.idxOf (((L o).getD (k+1) 0,0):E):Nat))):=S64 hb ha hx.asc hBl ht σ
  have ix:=ZS (o:=o) (i:=k+1) hk
  have ld:=QC (l:=L o) hk σ
  simp only [pI] at ld
  obtain ⟨y1,σ1,p1,p2,p3,p4⟩:=ho.push (by omega) (QT g2) (pI ((B.idxOf (((L o).getD (k+1) 0,0):E):Nat):Int))
  rw [nums_snoc] at p2
  refine ⟨y1,σ1,?_,by simpa [cdl] using p2,p3 _ _ (fun v e=>by cases e) g0,p3 _ _ (fun v e=>by cases e) g1,p3 _ _ (fun v e=>by cases e) g2⟩
  have hge:¬ (((0:Nat):Int)>=1):=by omega
  rw [f30_L1_eq Qb rfl]
  simp (disch:=omega) only [N,Zj,gEF hge,gG,gP,VE g2,ix,QF,ld,h64,Vs,p1,add1]
 | n+1,acc,y,σ,hs,hl,g0,g1,g2,ho,hn=>by
  have h64:Qv CC 64 [.agg (eAx x),.p (.int .i64 ((L o).getD k 0)),.p (.int .i64 ((n+1:Nat):Int))] σ=some (.p (.int .i64 (B.idxOf (((L o).getD k 0,((n+1:Nat):Int)):E):Nat))):=S64 hb ha hx.asc hBl (hs (n+1) (by omega) (Nat.le_refl _)) σ
  have ix:=ZS (o:=o) (i:=k) (by omega)
  have ld:=QC (l:=L o) (i:=k) (by omega) σ
  simp only [pI] at ld
  obtain ⟨y1,σ1,p1,p2,p3,p4⟩:=ho.push (by omega) (QT g2) (pI ((B.idxOf (((L o).getD k 0,((n+1:Nat):Int)):E):Nat):Int))
  rw [nums_snoc] at p2
  have hla:(acc++[(((L o).getD k 0,((n+1:Nat):Int)):E)]).length=acc.length+1:=by simp
  rw [<-hla] at p2
  obtain ⟨y2,σ2,r1,r2,r3⟩:=L30_1 hb ha hBl hk hol ht n (acc++[((L o).getD k 0,((n+1:Nat):Int))]) y1 σ1 (fun i h1 h2=>hs i h1 (by omega)) (by omega) (p3 _ _ (fun v e=>by cases e) g0) (p3 _ _ (fun v e=>by cases e) g1) (p3 _ _ (fun v e=>by cases e) g2) p2 (by omega)
  have ec:acc++[(((L o).getD k 0,((n+1:Nat):Int)):E)]++cdl ((L o).getD k 0) n=acc++cdl ((L o).getD k 0) (n+1):=by rw [cdl]; simp
  rw [ec] at r2
  have sb:binOp PP .sub 3 (.p (.int .i64 ((n+1:Nat):Int))) (.p (.int .i64 1))=some (.p (.int .i64 (n:Nat))):=by
   rw [WD,QE (by omega) (by omega),show ((n+1:Nat):Int)-1=(n:Nat) by omega]
  have sk:binOp PP .sub 3 (.p (.int .i64 ((k+1:Nat):Int))) (.p (.int .i64 1))=some (.p (.int .i64 (k:Nat))):=by
   rw [WD,QE (by omega) (by omega),show ((k+1:Nat):Int)-1=(k:Nat) by omega]
  have hgt:((n+1:Nat):Int)>=1:=by omega
  refine ⟨y2,σ2,?_,r2,r3⟩
  rw [<-r1,f30_L1_eq Qb rfl]
  simp (disch:=omega) only [N,Zj,gET hgt,gG,gP,VE g2,sk,ix,QF,ld,h64,Vs,p1,sb]
include hg hc hp
theorem L30 {x:Ax} (hb:L x.b=B.map Prod.fst) (ha:L x.a=B.map Prod.snd) (hBl:B.length<=1000):∀ (d k:Nat) (y:DV) (σ:Qa),(L o).length-1-k=d->k+1<=(L o).length->σ[0]?=some (.mix (eGr g))->σ[1]?=some (.mix (eCs c))->σ[2]?=some (.mix (eAx x))->LO σ 3 (slS g c (L o) k).length (Qr (nums B (slS g c (L o) k))) y->
  ∃ y' σ',f30_L0 Qb 0 (.p (eSl o)) (.ptr 0 0) (.ptr 1 0) (.ptr 2 0) y (N (k+1)) σ=some (y',σ')/\LO σ' 3 (slS g c (L o) ((L o).length-1)).length (Qr (nums B (slS g c (L o) ((L o).length-1)))) y'
 | 0,k,y,σ,hd,hk,g0,g1,g2,ho=>by
  have e:k=(L o).length-1:=by omega
  have hle:=hp.le
  have h1:¬ (((k+1:Nat):Int)<((L o).length:Nat)):=by omega
  refine ⟨y,σ,?_,by rw [<-e]; exact ho⟩
  rw [f30_L0_eq Qb rfl]
  simp (disch:=omega) only [N,QZ,Qn,ltF h1,gG]
 | d+1,k,y,σ,hd,hk,g0,g1,g2,ho=>by
  have hkl:k+1<(L o).length:=by omega
  have hle:=hp.le
  obtain ⟨w1,w2,w3,w4⟩:=Jo hp hkl
  have hv:=hc.cv (sI g (L o) k) (by rw [hc.cl]; exact w1)
  have ix1:=ZS (o:=o) (i:=k+1) hkl
  have ld1:=QC (l:=L o) hkl σ
  have ix2:=ZS (o:=o) (i:=k) (by omega)
  have ld2:=QC (l:=L o) (i:=k) (by omega) σ
  have he2:=hg.e0
  have h63:=S63 (g:=g) (s:=(L o).getD k 0) (t:=(L o).getD (k+1) 0) (σ:=σ) (by omega)
  rw [w2] at h63
  simp only [pI] at ld1 ld2 h63
  have g0':load PP 25 (.ptr 0 0) σ=some (.agg (eGr g)):=by rw [UN,QI (vs:=eGr g) g0 rfl (by simp [eGr])]; rfl
  have ixc:=ZS (o:=c) (i:=sI g (L o) k) (by rw [hc.cl]; exact w1)
  have ldc:=QC (l:=L c) (i:=sI g (L o) k) (by rw [hc.cl]; exact w1) σ
  simp only [pI] at ldc
  have ec:(L c).getD (sI g (L o) k) 0=((cS g c (L o) k:Nat):Int):=by unfold cS; omega
  rw [ec] at ldc
  have hsl:=slS_len hc hp k (by omega)
  have hcl:=cS_le hc hp hkl
  obtain ⟨m1,m2⟩:=su_mem hc hx hp k (by omega)
  obtain ⟨m3,_⟩:=su_mem hc hx hp (k+1) hkl
  obtain ⟨y1,σ1,b1,b2,b3,b4,b5⟩:=L30_1 hx hb ha hBl hkl (by omega) m3 (cS g c (L o) k) (slS g c (L o) k) y σ (m2 hkl) (by omega) g0 g1 g2 ho (by omega)
  have es:slS g c (L o) k++cdl ((L o).getD k 0) (cS g c (L o) k)++[((L o).getD (k+1) 0,0)]=slS g c (L o) (k+1):=rfl
  rw [es] at b2
  obtain ⟨y',σ',r1,r2⟩:=L30 hb ha hBl d (k+1) y1 σ1 (by omega) (by omega) b3 b4 b5 b2
  have sk:binOp PP .sub 3 (.p (.int .i64 ((k+1:Nat):Int))) (.p (.int .i64 1))=some (.p (.int .i64 (k:Nat))):=by
   rw [WD,QE (by omega) (by omega),show ((k+1:Nat):Int)-1=(k:Nat) by omega]
  have h1:(((k+1:Nat):Int)<((L o).length:Nat)):=by omega
  refine ⟨y',σ',?_,r2⟩
  simp only [N] at b1 r1
  rw [<-r1,<-b1,f30_L0_eq Qb rfl]
  simp (disch:=omega) only [N,QZ,Qn,ltT h1,gG,ZZ,gP,QO,cs_0 g1,g0',sk,ix1,QF,ld1,ix2,ld2,h63,ixc,ldc]
theorem S30 {x:Ax} (hb:L x.b=B.map Prod.fst) (ha:L x.a=B.map Prod.snd) (hBl:B.length<=1000) (h29:∀ σ,Qv CC 29 [.agg (eGr g),.agg (eCs c)] σ=some (.agg (eAx x))) (σ:Qa) :
  Qv CC 30 [.agg (eGr g),.agg (eCs c),.p (eSl o)] σ=some (.p (eSl (some (nums B (slS g c (L o) ((L o).length-1)))))):=by
 have g0:([Row.mix (eGr g),.mix (eCs c),.mix (eAx x)]:Qa)[0]?=some (.mix (eGr g)):=rfl
 have g1:([Row.mix (eGr g),.mix (eCs c),.mix (eAx x)]:Qa)[1]?=some (.mix (eCs c)):=rfl
 have g2:([Row.mix (eGr g),.mix (eCs c),.mix (eAx x)]:Qa)[2]?=some (.mix (eAx x)):=rfl
 have hle:=hp.le
 have hne:=hp.ne
 have h0:0<(L o).length:=by omega
 have lo0:LO [Row.mix (eGr g),.mix (eCs c),.mix (eAx x)] 3 (slS g c (L o) 0).length (Qr (nums B (slS g c (L o) 0))) (.p (.sl true 1 (Qr (nums B (slS g c (L o) 0))))):=.inl ⟨rfl,rfl,Nat.one_ne_zero⟩
 obtain ⟨y,σ',a1,a2⟩:=L30 hg hc hx hp hb ha hBl _ 0 _ _ rfl (by omega) g0 g1 g2 lo0
 have ix0:=ZS (o:=o) (i:=0) h0
 have ld0:=QC (l:=L o) h0 [Row.mix (eGr g),.mix (eCs c),.mix (eAx x)]
 simp only [pI] at ld0
 have h64:Qv CC 64 [.agg (eAx x),.p (.int .i64 ((L o).getD 0 0)),.p (.int .i64 0)] [Row.mix (eGr g),.mix (eCs c),.mix (eAx x)]=some (.p (.int .i64 (B.idxOf (((L o).getD 0 0,0):E):Nat))):=S64 hb ha hx.asc hBl (su_mem hc hx hp 0 h0).1 _
 have hst:store PP 0 33 (.ptr 2 0) (.agg (eAx x)) [Row.mix (eGr g),.mix (eCs c),.mix Z5]=some [Row.mix (eGr g),.mix (eCs c),.mix (eAx x)]:=st33 (c:=eAx x) (σ:=[Row.mix (eGr g),.mix (eCs c),.mix Z5]) (t:=2) rfl rfl rfl rfl
 have hz:Qx PP 33=some Z5:=Ut
 have hld1:load PP 54 (.ptr 1 0) [Row.mix (eGr g),.mix (eCs c)]=some (.agg (eCs c)):=UF rfl
 have hld0:load PP 25 (.ptr 0 0) [Row.mix (eGr g),.mix (eCs c)]=some (.agg (eGr g)):=Wy rfl
 refine Qk (by simp [Zz,VI,Zf]) rfl (F30_call (r:=(y,σ')) ?_) a2.all.1
 have e00:(DV.p (.int .i64 0))=.p (.int .i64 ((0:Nat):Int)):=rfl
 rw [F30_eq]
 simp only [Zr,WF,gG,List.length_nil,List.nil_append,List.length_cons,List.cons_append,gP,hld0,hld1,h29,hz,hst]
 have ix0':=ix0
 rw [<-e00] at ix0'
 simp only [gG,ix0',QF,ld0,VE g2,h64,Vs]
 exact a1
end
def Chn (R:E->E->Prop):E->List E->Prop
 | _,[]=>True
 | x,y::l=>R x y/\Chn R y l
def lastE (x:E):List E->E
 | []=>x
 | y::l=>lastE y l
theorem chn_app {R:E->E->Prop}:∀ {x:E} {l m:List E},Chn R x l->Chn R (lastE x l) m->Chn R x (l++m)
 | x,[],m,_,h=>h
 | x,y::l,m,h1,h2=>⟨h1.1,chn_app h1.2 h2⟩
theorem last_app:∀ (x:E) (l:List E) (y:E),lastE x (l++[y])=y
 | x,[],y=>rfl
 | x,z::l,y=>last_app z l y
theorem chn_at {R:E->E->Prop}:∀ {l:List E} {x:E},Chn R x l->∀ i,i+1<(x::l).length->R (ge (x::l) i) (ge (x::l) (i+1))
 | [],x,h,i,hi=>by simp at hi
 | y::l,x,h,0,hi=>h.1
 | y::l,x,h,i+1,hi=>chn_at (l:=l) h.2 i (by simpa using hi)
def RK (g:Gr) (c:OI) (x y:E):Prop:=(∃ m∈mvS g c x,toE m=y)/\(y.2=0->∃ m∈mvS g c x,toE m=y/\m.a≠11)/\(y.2≠0->x.1=y.1/\∀ m∈mvS g c x,toE m=y->m.a=11)
section
variable {g : Gr} {c : OI} {p : List Int} (hc : COk g c) (ht : (L g.edges).any tk = false) (hp : PthOk g p)
include hc ht hp
theorem rk_end {k:Nat} (hk:k+1<p.length) {v:Int} (hv:(v=0/\cS g c p k=0)\/(v=1/\0<cS g c p k)):RK g c (p.getD k 0,v) (p.getD (k+1) 0,0):=by
 obtain ⟨h1,h2,h3,h4⟩:=Jo hp hk
 have hcv:=hc.cv (sI g p k) (by rw [hc.cl]; exact h1)
 have hm:(⟨(gE (L g.edges) (sI g p k)).t,0,(gE (L g.edges) (sI g p k)).a⟩:Edg)∈mvS g c (p.getD k 0,v):=by
  refine ZW.2 (.inr ⟨by simp only; omega,sI g p k,h1,h3,WH.2 (.inl ⟨?_,rfl⟩)⟩)
  unfold cS at hv
  simp only
  omega
 have he:toE (⟨(gE (L g.edges) (sI g p k)).t,0,(gE (L g.edges) (sI g p k)).a⟩:Edg)=(p.getD (k+1) 0,0):=by
  unfold toE; simp only; rw [h4]
 have ha:(gE (L g.edges) (sI g p k)).a≠11:=fun e=>by
  rw [List.any_eq_false] at ht
  have:=ht (gE (L g.edges) (sI g p k)) (by rw [Vw h1]; exact List.getElem_mem h1)
  unfold tk at this
  rw [decide_eq_true_iff] at this
  exact this e
 exact ⟨⟨_,hm,he⟩,fun _=>⟨_,hm,he,ha⟩,fun h=>absurd rfl h⟩
omit ht in
theorem rk_up {k:Nat} (hk:k+1<p.length) (hn:0<cS g c p k):RK g c (p.getD k 0,0) (p.getD k 0,((cS g c p k:Nat):Int)):=by
 obtain ⟨h1,h2,h3,h4⟩:=Jo hp hk
 have hcv:=hc.cv (sI g p k) (by rw [hc.cl]; exact h1)
 have ec:((cS g c p k:Nat):Int)=(L c).getD (sI g p k) 0:=by unfold cS; omega
 have hm:(⟨p.getD k 0,(L c).getD (sI g p k) 0,11⟩:Edg)∈mvS g c (p.getD k 0,0):=
  ZW.2 (.inr ⟨by simp,sI g p k,h1,h3,WH.2 (.inr ⟨⟨rfl,by omega⟩,rfl⟩)⟩)
 have he:toE (⟨p.getD k 0,(L c).getD (sI g p k) 0,11⟩:Edg)=(p.getD k 0,((cS g c p k:Nat):Int)):=by
  unfold toE; simp only; rw [ec]
 refine ⟨⟨_,hm,he⟩,fun h=>by simp only at h; omega,fun _=>⟨rfl,fun m hm2 hme=>?_⟩⟩
 rcases ZW.1 hm2 with ⟨h5,_⟩ | ⟨_,j,_,_,h6⟩
 ·simp at h5
 ·rcases WH.1 h6 with ⟨_,rfl⟩ | ⟨_,rfl⟩
  ·unfold toE at hme
   simp only [Prod.mk.injEq] at hme
   omega
  ·rfl
omit hc ht hp in
theorem rk_down (s:Int) (i:Nat):RK g c (s,((i+2:Nat):Int)) (s,((i+1:Nat):Int)):=by
 have hm:(⟨s,((i+2:Nat):Int)-1,11⟩:Edg)∈mvS g c (s,((i+2:Nat):Int)):=ZW.2 (.inl ⟨by simp only; omega,rfl⟩)
 have he:toE (⟨s,((i+2:Nat):Int)-1,11⟩:Edg)=(s,((i+1:Nat):Int)):=by
  unfold toE; simp only; rw [show ((i+2:Nat):Int)-1=((i+1:Nat):Int) by omega]
 refine ⟨⟨_,hm,he⟩,fun h=>by simp only at h; omega,fun _=>⟨rfl,fun m hm2 hme=>?_⟩⟩
 rcases ZW.1 hm2 with ⟨_,rfl⟩ | ⟨h5,_⟩
 ·rfl
 ·simp only at h5; omega
theorem chn_down {k:Nat} (hk:k+1<p.length) (hn:0<cS g c p k):∀ m:Nat,Chn (RK g c) (p.getD k 0,((m+1:Nat):Int)) (cdl (p.getD k 0) m++[(p.getD (k+1) 0,0)])
 | 0=>⟨rk_end hc ht hp hk (.inr ⟨rfl,hn⟩),trivial⟩
 | m+1=>⟨rk_down _ m,chn_down hk hn m⟩
theorem chn_blk {k:Nat} (hk:k+1<p.length):Chn (RK g c) (p.getD k 0,0) (cdl (p.getD k 0) (cS g c p k)++[(p.getD (k+1) 0,0)]):=by
 by_cases hn:cS g c p k=0
 ·rw [hn]; exact ⟨rk_end hc ht hp hk (.inl ⟨rfl,hn⟩),trivial⟩
 ·obtain ⟨m,hm⟩:∃ m,cS g c p k=m+1:=⟨cS g c p k-1,by omega⟩
  have h1:=rk_up hc hp hk (by omega)
  rw [hm] at h1 ⊢
  exact ⟨h1,chn_down hc ht hp hk (by omega) m⟩
theorem slS_chn:∀ k,k<p.length->∃ tl,slS g c p k=(p.getD 0 0,0)::tl/\Chn (RK g c) (p.getD 0 0,0) tl/\lastE (p.getD 0 0,0) tl=(p.getD k 0,0)
 | 0,_=>⟨[],rfl,trivial,rfl⟩
 | k+1,hk=>by
  obtain ⟨tl,h1,h2,h3⟩:=slS_chn k (by omega)
  refine ⟨tl++(cdl (p.getD k 0) (cS g c p k)++[(p.getD (k+1) 0,0)]),?_,chn_app h2 (by rw [h3]; exact chn_blk hc ht hp hk),?_⟩
  ·rw [slS,h1]; simp
  ·rw [<-List.append_assoc,last_app]
end
theorem cdl_flt (s:Int):∀ m,(cdl s m).filter (fun x=>decide (x.2=0))=[]
 | 0=>rfl
 | m+1=>by
  rw [cdl,List.filter_cons_of_neg (by simp only [decide_eq_true_iff]; omega),cdl_flt s m]
theorem slS_flt (g:Gr) (c:OI) (p:List Int):∀ k,k<p.length->((slS g c p k).filter fun x=>decide (x.2=0)).map Prod.fst=p.take (k+1)
 | 0,hk=>by
  rw [List.take_succ_eq_append_getElem hk,List.take_zero,<-Zp 0 hk]
  rfl
 | k+1,hk=>by
  have ih:=slS_flt g c p k (by omega)
  rw [slS,List.filter_append,List.filter_append,cdl_flt,List.append_nil,List.map_append,ih,List.take_succ_eq_append_getElem hk,Zp 0 hk]
  rfl
section
variable {g : Gr} {c : OI} {n : Int} {B : List E} {E' : List Edg} {D : List E} {Y : Ax} (hx : ExtG n (fun x => oE (mvS g c x)) (iniS g) B E') (hD : ∀ i, i + 1 < D.length -> RK g c (ge D i) (ge D (i + 1))) (hm : ∀ x ∈ D, x ∈ B) (hi : 0 < D.length -> ge D 0 ∈ iniS g /\ (ge D 0).2 = 0)
variable (yb:L Y.b=B.map Prod.fst) (yn:Y.g.n=(B.length:Nat)) (yi:L Y.g.init=nums B (iniS g)) (ye:L Y.g.edges=E')
include hm
omit hm in
theorem nums_at {D B:List E} {k:Nat} (hk:k<D.length):(nums B D).getD k 0=((B.idxOf (ge D k):Nat):Int):=by
 rw [List.getD_eq_getElem?_getD,List.getElem?_eq_getElem (by simpa [nums] using hk),Zi hk]; simp [nums]
include hx ye in
theorem su_edge {k:Nat} (hk:k+1<D.length) (a:Int):(∃ e∈L Y.g.edges,e.f=(nums B D).getD k 0/\e.t=(nums B D).getD (k+1) 0/\e.a=a)↔∃ m∈mvS g c (ge D k),toE m=ge D (k+1)/\m.a=a:=by
 have b1:=ZK (hm (ge D k) (by rw [Zi (by omega)]; exact List.getElem_mem _))
 have b2:=ZK (hm (ge D (k+1)) (by rw [Zi hk]; exact List.getElem_mem _))
 rw [ye,nums_at (by omega),nums_at hk]
 constructor
 ·rintro ⟨e,he,h1,h2,h3⟩
  rw [hx.pm,mem_rawE] at he
  obtain ⟨i,hi,m,hm2,rfl⟩:=he
  simp only [Nat.zero_add] at h1 h2 h3
  have e1:i=B.idxOf (ge D k):=by omega
  subst e1
  rw [b1.2,L_oE] at hm2
  have hmB:=ZK (hx.cl (ge D k) (hm (ge D k) (by rw [Zi (by omega)]; exact List.getElem_mem _)) m (by rw [L_oE]; exact hm2))
  refine ⟨m,hm2,?_,h3⟩
  have e2:B.idxOf (toE m)=B.idxOf (ge D (k+1)):=by omega
  rw [<-hmB.2,e2,b2.2]
 ·rintro ⟨m,hm2,h1,h2⟩
  refine ⟨⟨((B.idxOf (ge D k):Nat):Int),((B.idxOf (toE m):Nat):Int),m.a⟩,?_,rfl,by rw [h1],h2⟩
  rw [hx.pm,mem_rawE]
  exact ⟨B.idxOf (ge D k),b1.1,m,by rw [b1.2,L_oE]; exact hm2,by rw [Nat.zero_add]⟩
include hx hD hi yn yi ye in
theorem su_pth (h0:D.length≠0) (h60:D.length<=60) (hBl:B.length<=400):pthE Y.g (nums B D)=0:=by
 have hnl:(nums B D).length=D.length:=by simp [nums]
 unfold pthE
 rw [hnl,if_neg h0,if_neg (by omega)]
 have hp:pred Y.g.n=Y.g.n-1:=QE (by omega) (by omega)
 have h3:(nums B D).any (badN Y.g)=false:=by
  rw [List.any_eq_false]
  intro v hv
  unfold nums at hv
  rw [List.mem_map] at hv
  obtain ⟨x,hxD,rfl⟩:=hv
  have h2:=(ZK (hm x hxD)).1
  have:inR ((B.idxOf x:Nat):Int) 0 (pred Y.g.n)=true:=(WJ _ _ _).2 ⟨by omega,by rw [hp,yn]; omega⟩
  simp [badN,this]
 have h4:hasI (L Y.g.init) ((nums B D).getD 0 0)=true:=by
  unfold hasI
  rw [List.any_eq_true,yi,nums_at (by omega)]
  exact ⟨_,List.mem_map.2 ⟨ge D 0,(hi (by omega)).1,rfl⟩,decide_eq_true rfl⟩
 have h5:QK (stpK Y.g (nums B D)) 1 (D.length-1)=true:=by
  rw [allFrom_iff]
  intro j hj1 hj2
  obtain ⟨m,hm2,hme⟩:=(hD (j-1) (by omega)).1
  obtain ⟨e,he,k1,k2,_⟩:=(su_edge hx hm ye (k:=j-1) (by omega) m.a).2 ⟨m,hm2,hme,rfl⟩
  rw [show j-1+1=j by omega] at k2
  unfold stpK
  rw [List.any_eq_true]
  exact ⟨e,he,by simp [VK,k1,k2]⟩
 rw [h3,if_neg (by decide),h4,h5]
 rfl
include hx hD hi yb ye in
theorem su_skp {k:Nat} (hk:k<D.length):skp Y (nums B D) k = !decide ((ge D k).2=0):=by
 have bA:∀ j,j<D.length->bAt Y ((nums B D).getD j 0)=(ge D j).1:=fun j hj=>by
  have b1:=ZK (hm (ge D j) (by rw [Zi hj]; exact List.getElem_mem _))
  unfold bAt
  rw [nums_at hj,yb,Int.toNat_natCast,Zp 0 (by simpa using b1.1),List.getElem_map,<-Zi b1.1,b1.2]
 unfold skp
 by_cases h1:k=0
 ·subst h1
  have h2:=(hi hk).2
  rw [decide_eq_false (by omega),Bool.false_and,decide_eq_true h2]; rfl
 ·have hr:=hD (k-1) (by omega)
  rw [show k-1+1=k by omega] at hr
  rw [decide_eq_true (show ((k:Nat):Int)>0 by omega),Bool.true_and,bA k hk,bA (k-1) (by omega)]
  have hE:=fun a=>su_edge hx hm ye (k:=k-1) (by omega) a
  simp only [show k-1+1=k by omega] at hE
  by_cases hz:(ge D k).2=0
  ·obtain ⟨m,m1,m2,m3⟩:=hr.2.1 hz
   obtain ⟨e,he,k1,k2,k3⟩:=(hE m.a).2 ⟨m,m1,m2,rfl⟩
   have:(L Y.g.edges).any (UY ((nums B D).getD (k-1) 0) ((nums B D).getD k 0))=true:=by
    rw [List.any_eq_true]
    exact ⟨e,he,by simp [UY,k1,k2,k3,m3]⟩
   rw [decide_eq_true hz]
   unfold tkA
   rw [this]
   simp
  ·obtain ⟨h2,h3⟩:=hr.2.2 hz
   have:(L Y.g.edges).any (UY ((nums B D).getD (k-1) 0) ((nums B D).getD k 0))=false:=by
    rw [List.any_eq_false]
    intro e he hb
    simp only [UY,Bool.and_eq_true,decide_eq_true_iff] at hb
    obtain ⟨m,m1,m2,m3⟩:=(hE e.a).1 ⟨e,he,hb.1,hb.2.1,rfl⟩
    have:=h3 m m1 m2
    simp at hb
    omega
   rw [decide_eq_false hz]
   unfold tkA
   rw [this,decide_eq_true h2.symm]
   rfl
include hx hD hi yb ye in
theorem su_hid:∀ k,k<=D.length->hidU Y (nums B D) k=((D.take k).filter fun x=>decide (x.2=0)).map Prod.fst
 | 0,_=>rfl
 | k+1,hk=>by
  have ih:=su_hid k (by omega)
  have hs:=su_skp hx hD hm hi yb ye (show k<D.length by omega)
  have b1:=ZK (hm (ge D k) (by rw [Zi (by omega)]; exact List.getElem_mem _))
  have hb:bAt Y ((nums B D).getD k 0)=(ge D k).1:=by
   unfold bAt
   rw [nums_at (by omega),yb,Int.toNat_natCast,Zp 0 (by simpa using b1.1),List.getElem_map,<-Zi b1.1,b1.2]
  unfold hidU
  rw [hs,hb,ih,List.take_succ_eq_append_getElem (by omega),List.filter_append,List.map_append,<-Zi (by omega)]
  cases hz:decide ((ge D k).2=0) with
  | true=>
   rw [List.filter_cons_of_pos (p:=fun x:E=>decide (x.2=0)) hz]; rfl
  | false=>
   rw [List.filter_cons_of_neg (p:=fun x:E=>decide (x.2=0)) (by rw [hz]; simp)]; simp
end
theorem S23s {g:Gr} {c:OI} {B:List E} {E':List Edg} {pth:OI} {X:Ax} (hc:COk g c) (ht:(L g.edges).any tk=false) (hx:ExtG g.n (fun x=>oE (mvS g c x)) (iniS g) B E') (hp:PthOk g (L pth)) (hBl:B.length<=400)
  (yb:L X.b=B.map Prod.fst) (yn:X.g.n=(B.length:Nat)) (yi:L X.g.init=nums B (iniS g)) (ye:L X.g.edges=E') (hsm:XSm X) (hext:extE X=0) (σ:Qa) :
  Qv CC 23 [.agg (eAx X),.p (eSl pth),.p (eSl (some (nums B (slS g c (L pth) ((L pth).length-1))))),.p (eSl (some (nums B (slS g c (L pth) ((L pth).length-1)))))] σ=some (.p (.bool true)):=by
 have g0:([Row.mix (eAx X)]:Qa)[0]?=some (.mix (eAx X)):=rfl
 have hne:=hp.ne
 have hle:=hp.le
 have hsl:=slS_len hc hp ((L pth).length-1) (by omega)
 obtain ⟨tl,t1,t2,t3⟩:=slS_chn hc ht hp ((L pth).length-1) (by omega)
 have hfl:=slS_flt g c (L pth) ((L pth).length-1) (by omega)
 rw [show (L pth).length-1+1=(L pth).length by omega,List.take_length] at hfl
 generalize hDD:slS g c (L pth) ((L pth).length-1)=D at *
 have hD:∀ i,i+1<D.length->RK g c (ge D i) (ge D (i+1)):=fun i hi=>by
  rw [t1] at hi ⊢
  exact chn_at t2 i hi
 have hini:(((L pth).getD 0 0,0):E)∈iniS g:=by unfold iniS; rw [List.mem_map]; exact ⟨_,hp.ini,rfl⟩
 have hm:∀ x∈D,x∈B:=fun x hxD=>by
  obtain ⟨i,hi,rfl⟩:=List.getElem_of_mem hxD
  rw [<-Zi hi]
  clear hxD
  induction i with
  | zero=>rw [t1]; exact hx.beg _ hini
  | succ i ih=>
   obtain ⟨m,m1,m2⟩:=(hD i hi).1
   rw [<-m2]
   exact hx.cl _ (ih (by omega)) m (by rw [L_oE]; exact m1)
 have hi:0<D.length->ge D 0∈iniS g/\(ge D 0).2=0:=fun _=>by
  rw [t1]; exact ⟨hini,rfl⟩
 have hD0:D.length≠0:=by rw [t1]; simp
 have hnl:(nums B D).length=D.length:=by simp [nums]
 have hLs:L (some (nums B D))=nums B D:=rfl
 have h34a:=S34 (a:=some (nums B D)) (b:=some (nums B D)) (σ:=[Row.mix (eAx X)]) rfl (by rw [hLs,hnl]; omega)
 by_cases q60:D.length<=60
 ·have q1:¬ (((L (some (nums B D))).length:Int)>60):=by rw [hLs,hnl]; omega
  have hpt:=su_pth (Y:=ownX X) hx hD hm hi yn yi ye hD0 q60 hBl
  have hhd:=su_hid (Y:=ownX X) hx hD hm hi yb ye D.length (Nat.le_refl _)
  rw [List.take_length,hfl] at hhd
  have h31:=S31 (o:=some (L (some (nums B D)))) (σ:=[Row.mix (eAx X)]) (xsm_own hsm) (show (nums B D).length<=1000 by omega)
  have e1:extE (ownX X)=0:=hext
  have hLs2:L (some (L (some (nums B D))))=nums B D:=rfl
  unfold resH at h31
  rw [e1,if_pos rfl,hLs2,hpt,if_pos rfl,hnl,hhd] at h31
  have h34:=S34 (a:=oI (L pth)) (b:=pth) (σ:=[Row.mix (eAx X)]) (L_oI _) (by rw [L_oI]; omega)
  have h16:=S16 (o:=some (nums B D)) (σ:=[Row.mix (eAx X)]) (by rw [hLs,hnl]; omega)
  have q0:decide ((0:Int)=0)=true:=rfl
  refine Qk (by simp [WZ,Zf]) rfl (F23_call (r:=(.p (.bool true),[.mix (eAx X)])) ?_) rfl
  rw [F23_eq]
  simp only [Ua,gG,List.length_nil,List.nil_append,gP,h34a,QZ,Zh,gtF q1,VE g0,S32 hsm,h16,h31,ex0,ex1,QV,q0,h34]
 ·have q1:(((L (some (nums B D))).length:Int)>60):=by rw [hLs,hnl]; omega
  refine Qk (by simp [WZ,Zf]) rfl (F23_call (r:=(.p (.bool true),[.mix (eAx X)])) ?_) rfl
  rw [F23_eq]
  simp only [Ua,gG,List.length_nil,List.nil_append,gP,h34a,QZ,Zh,gtT q1]
end Go.D.StS
end
/- Equations of functions 4, printed by gen.py. -/
section
set_option linter.unusedVariables false
set_option maxRecDepth 10000
namespace Go.D
open Go.Proofs
noncomputable section
variable (G:Qe) (lo:Nat) {σ:Qa} {r:DV×Qa}
open _root_.Go.D.Code (fstC sndC)
open _root_.Go.D.Ann (left right)
def c4_0:Code:=Qs Tryz.f4
def a4_0:Ann:=(pol 4).ann
def c4_30:Code:=sndC (sndC (sndC (sndC (sndC (sndC (sndC c4_0))))))
def a4_30:Ann:=right (right (right (right (right (right (right a4_0))))))
def f4_J0 (a b c d f O H k g i j w F ah R af b8 Q u o z K A ac U au S aw B I ae V ai aj aq Y L C x y X P N t J E ak ar az T W aa:DV) (σ:Qa):RS:=
 (seqC G PP (pol 4) CC lo c4_30 a4_30 (finR PP Tryz.f4.results.toList)) .normal (a::b::c::d::f::Z::O::H::k::g::i::j::Z::Z::w::F::ah::R::af::b8::Q::u::o::z::K::A::ac::U::au::S::aw::B::I::ae::V::ai::aj::aq::Y::L::C::x::y::X::P::N::t::J::E::ak::ar::az::T::W::aa::zn 66 []) σ
def F4 (a b c:DV) (σ:Qa):RS:=
 Qm G PP (pol 4) CC lo c4_0 a4_0 (a::b::c::zn 118 []) σ (finR PP Tryz.f4.results.toList)
theorem f4_J0_eq (G:Qe) (lo:Nat) (a b c d f O H k g i j w F ah R af b8 Q u o z K A ac U au S aw B I ae V ai aj aq Y L C x y X P N t J E ak ar az T W aa:DV) (σ:Qa):f4_J0 G lo a b c d f O H k g i j w F ah R af b8 Q u o z K A ac U au S aw B I ae V ai aj aq Y L C x y X P N t J E ak ar az T W aa σ =
 (binOp PP .neq 3 j I0).bind fun be=>
 Qh be
 (
 (load PP 33 H σ).bind fun bp=>
 (build PP 46 [(0,bp),(1,k)]).bind fun bc=>
 (build PP 33 []).bind fun bh=>
 (Qg CC (DV.fn 19 []) [bc,j,bh] σ).bind fun bm=>
 G _ bm true (some (i,σ)) σ fun bj σ9=>
 G _ bm true (some (j,σ9)) σ9 fun bu σ10=>
 Gp G bm true (binOp PP .eql 3 bj bu) σ10 fun bg σ11=>
 (Qt bm bg (DV.p (PV.bool false))).bind fun bf=>
 G _ bf true (some (g,σ11)) σ11 fun dc σ12=>
 Gp G bf true (len PP 22 dc σ12) σ12 fun br σ13=>
 Gp G bf true (binOp PP .eql 3 br I0) σ13 fun ba σ14=>
 (Qt bf ba (DV.p (PV.bool false))).bind fun cz=>
 some (cz,σ14)
 )
 (
 (load PP 25 d σ).bind fun cc=>
 (load PP 54 f σ).bind fun M=>
 (Qg CC (DV.fn 29 []) [cc,M] σ).bind fun ck=>
 (Qx PP 33).bind fun z12=>
 (store PP lo 33 (DV.ptr (List.length σ) 0) ck (σ++[Row.mix z12])).bind fun σ15=>
 (load PP 33 H σ15).bind fun ca=>
 (build PP 46 [(0,ca),(1,k)]).bind fun bz=>
 (load PP 33 (DV.ptr (List.length σ) 0) σ15).bind fun bv=>
 (Qg CC (DV.fn 19 []) [bz,I0,bv] σ15).bind fun c7=>
 (unOp .not c7).bind fun cw=>
 Gp G cw false (load PP 33 (DV.ptr (List.length σ) 0) σ15) σ15 fun cr σ16=>
 Gp G cw false (Qg CC (DV.fn 21 []) [cr] σ16) σ16 fun bk σ17=>
 (Qt cw (DV.p (PV.bool true)) bk).bind fun bt=>
 Qh bt
 (
 (load PP 33 (DV.ptr (List.length σ) 0) σ17).bind fun bn=>
 (Qg CC (DV.fn 21 []) [bn] σ17).bind fun bw=>
 G _ bw true (some (k,σ17)) σ17 fun ch σ18=>
 Gp G bw true (binOp PP .eql 34 ch (DV.p (PV.int IntKind.i64 (2)))) σ18 fun co σ19=>
 (Qt bw co (DV.p (PV.bool false))).bind fun ct=>
 G _ ct true (some (i,σ19)) σ19 fun ce σ20=>
 Gp G ct true (binOp PP .eql 34 ce (DV.p (PV.int IntKind.i64 (2)))) σ20 fun cb σ21=>
 (Qt ct cb (DV.p (PV.bool false))).bind fun cj=>
 some (cj,σ21)
 )
 (
 (load PP 25 d σ17).bind fun c8=>
 (Qg CC (DV.fn 22 []) [c8,c] σ17).bind fun dh=>
 (binOp PP .neq 3 dh I0).bind fun bl=>
 Qh bl
 (
 (binOp PP .eql 3 i dh).bind fun dt=>
 G _ dt true (some (g,σ17)) σ17 fun dm σ22=>
 Gp G dt true (len PP 22 dm σ22) σ22 fun ej σ23=>
 Gp G dt true (binOp PP .eql 3 ej I0) σ23 fun dk σ24=>
 (Qt dt dk (DV.p (PV.bool false))).bind fun dj=>
 some (dj,σ24)
 )
 (
 (binOp PP .eql 34 i I0).bind fun dd=>
 Gp G dd true (load PP 33 H σ17) σ17 fun am σ25=>
 G _ dd true (some (c,σ25)) σ25 fun c9 σ26=>
 G _ dd true (some (g,σ26)) σ26 fun ek σ27=>
 Gp G dd true (load PP 25 d σ27) σ27 fun du σ28=>
 Gp G dd true (load PP 54 f σ28) σ28 fun di σ29=>
 G _ dd true (some (c,σ29)) σ29 fun cp σ30=>
 Gp G dd true (Qg CC (DV.fn 30 []) [du,di,cp] σ30) σ30 fun eu σ31=>
 Gp G dd true (Qg CC (DV.fn 23 []) [am,c9,ek,eu] σ31) σ31 fun ef σ32=>
 (Qt dd ef (DV.p (PV.bool false))).bind fun cg=>
 some (cg,σ32)
 )
 )
 ):=by kernel_rfl
theorem F4_eq (G:Qe) (lo:Nat) (a b c:DV) (σ:Qa):F4 G lo a b c σ =
 (boxV a).bind fun z3=>
 (boxV b).bind fun z4=>
 (Qg CC (DV.fn 9 []) [] ((σ++[Row.mix z3])++[Row.mix z4])).bind fun w=>
 (unOp .not w).bind fun F=>
 Qh F
 (
 some ((DV.p (PV.bool false)),((σ++[Row.mix z3])++[Row.mix z4]))
 )
 (
 (load PP 25 (DV.ptr (List.length σ) 0) ((σ++[Row.mix z3])++[Row.mix z4])).bind fun ah=>
 (Qg CC (DV.fn 10 []) [ah] ((σ++[Row.mix z3])++[Row.mix z4])).bind fun R=>
 (unOp .not R).bind fun af=>
 Gp G af false (fieldAddr PP 54 (DV.ptr (List.length (σ++[Row.mix z3])) 0) 0) ((σ++[Row.mix z3])++[Row.mix z4]) fun Q σ1=>
 Gp G af false (load PP 22 Q σ1) σ1 fun u σ2=>
 Gp G af false (len PP 22 u σ2) σ2 fun o σ3=>
 Gp G af false (binOp PP .gtr 3 o (DV.p (PV.int IntKind.i64 (130)))) σ3 fun z σ4=>
 (Qt af (DV.p (PV.bool true)) z).bind fun K=>
 G _ K false (some (c,σ4)) σ4 fun ac σ5=>
 Gp G K false (len PP 22 ac σ5) σ5 fun U σ6=>
 Gp G K false (binOp PP .gtr 3 U (DV.p (PV.int IntKind.i64 (62)))) σ6 fun au σ7=>
 (Qt K (DV.p (PV.bool true)) au).bind fun S=>
 Qh S
 (
 some ((DV.p (PV.bool true)),σ7)
 )
 (
 (load PP 25 (DV.ptr (List.length σ) 0) σ7).bind fun B=>
 (Qg CC (DV.fn 13 []) [B] σ7).bind fun I=>
 (load PP 54 (DV.ptr (List.length (σ++[Row.mix z3])) 0) σ7).bind fun ae=>
 (Qg CC (DV.fn 26 []) [ae] σ7).bind fun V=>
 (Qg CC (DV.fn 25 []) [I,V] σ7).bind fun ai=>
 (Qj ai 0).bind fun aj=>
 (Qj ai 1).bind fun aq=>
 (Qx PP 33).bind fun z7=>
 (store PP lo 33 (DV.ptr (List.length σ7) 0) aj (σ7++[Row.mix z7])).bind fun σ8=>
 (load PP 25 (DV.ptr (List.length σ) 0) σ8).bind fun L=>
 (Qg CC (DV.fn 13 []) [L] σ8).bind fun C=>
 (load PP 54 (DV.ptr (List.length (σ++[Row.mix z3])) 0) σ8).bind fun x=>
 (Qg CC (DV.fn 26 []) [x] σ8).bind fun y=>
 (Qg CC (DV.fn 16 []) [c] σ8).bind fun P=>
 (Qg CC (DV.fn 27 []) [C,y,P] σ8).bind fun N=>
 (Qj N 0).bind fun t=>
 (Qj N 1).bind fun J=>
 (load PP 25 (DV.ptr (List.length σ) 0) σ8).bind fun E=>
 (Qg CC (DV.fn 17 []) [E] σ8).bind fun ak=>
 (binOp PP .eql 3 ak I0).bind fun az=>
 Qh az
 (
 (load PP 25 (DV.ptr (List.length σ) 0) σ8).bind fun T=>
 (load PP 54 (DV.ptr (List.length (σ++[Row.mix z3])) 0) σ8).bind fun W=>
 (Qg CC (DV.fn 28 []) [T,W] σ8).bind fun aa=>
 f4_J0 G lo a b c (DV.ptr (List.length σ) 0) (DV.ptr (List.length (σ++[Row.mix z3])) 0) (DV.p (PV.bool false)) (DV.ptr (List.length σ7) 0) aq t J aa w F ah R af af Q u o z K K ac U au S ai B I ae V ai aj aq N L C x y c P N t J E ak ak az T W aa σ8
 )
 (
 f4_J0 G lo a b c (DV.ptr (List.length σ) 0) (DV.ptr (List.length (σ++[Row.mix z3])) 0) (DV.p (PV.bool false)) (DV.ptr (List.length σ7) 0) aq t J ak w F ah R af af Q u o z K K ac U au S ai B I ae V ai aj aq N L C x y c P N t J E ak ak az Z Z Z σ8
 )
 )
 ):=by kernel_rfl
theorem F4_call {lo:Nat} {a b c:DV} (h:F4 Qb lo a b c σ=some r):CC lo 4 [a,b,c] σ=some r:=
 callL_run Tryz.func4 (by decide +kernel) rfl (by decide +kernel) h
end
end Go.D
end
/- AuxiliaryStutters: what the law answers, if awake answers true. -/
section
set_option linter.unusedVariables false
set_option linter.unusedSimpArgs false
namespace Go.D.StS
open Go.D.Srt
theorem bld46i (x:Ax) (e:Int):build PP 46 [(0,.agg (eAx x)),(1,.p (.int .i64 e))]=some (.agg (eRs x e)):=bld46 x e
theorem c_stX {g:Gr} {c:OI} (X:Ax):store PP 0 33 (.ptr 2 0) (.agg (eAx X)) [.mix (eGr g),.mix (eCs c),.mix Z5]=some [.mix (eGr g),.mix (eCs c),.mix (eAx X)]:=
 st33 (c:=eAx X) (σ:=[.mix (eGr g),.mix (eCs c),.mix Z5]) (t:=2) rfl rfl rfl rfl
theorem c_stY {g:Gr} {c:OI} (X Y:Ax):store PP 0 33 (.ptr 3 0) (.agg (eAx Y)) [.mix (eGr g),.mix (eCs c),.mix (eAx X),.mix Z5]=some [.mix (eGr g),.mix (eCs c),.mix (eAx X),.mix (eAx Y)]:=
 st33 (c:=eAx Y) (σ:=[.mix (eGr g),.mix (eCs c),.mix (eAx X),.mix Z5]) (t:=3) rfl rfl rfl rfl
theorem slS_own (g:Gr) (c:OI) (p:List Int):∀ k,slS (ownG g) (some (L c)) p k=slS g c p k
 | 0=>rfl
 | k+1=>by
  have e:cS (ownG g) (some (L c)) p k=cS g c p k:=rfl
  rw [slS,slS,slS_own g c p k,e]
theorem mvS_act {g:Gr} {c:OI} {x:E} {e:Edg} (hg:GOk g) (he:e∈mvS g c x):0<=e.a/\e.a<=11:=by
 rcases ZW.1 he with ⟨_,rfl⟩ | ⟨_,j,h1,_,h3⟩
 ·exact ⟨(by decide:(0:Int)<=11),(by decide:(11:Int)<=11)⟩
 ·have hE:=hg.el _ (List.getElem_mem h1)
  rw [<-Vw h1] at hE
  rcases WH.1 h3 with ⟨_,rfl⟩ | ⟨_,rfl⟩
  ·exact hE.2.2
  ·exact ⟨(by decide:(0:Int)<=11),(by decide:(11:Int)<=11)⟩
section
variable (hawake:∀ σ,Qv CC 9 [] σ=some (.p (.bool true))) {g:Gr} {c:OI} {o:OI}
variable (hf:fewB g=true) (q1:(L c).length<=130) (hol:(L o).length<=62)
include hawake hf q1 hol
theorem law4_in:∃ σ',F4 Qb 0 (.agg (eGr g)) (.agg (eCs c)) (.p (eSl o)) []=some (.p (.bool true),σ'):=by
 have g0:([Row.mix (eGr g),.mix (eCs c)]:Qa)[0]?=some (.mix (eGr g)):=rfl
 have g1:([Row.mix (eGr g),.mix (eCs c)]:Qa)[1]?=some (.mix (eCs c)):=rfl
 have h10:=S10 (g:=g) (σ:=[Row.mix (eGr g),.mix (eCs c)])
 rw [hf] at h10
 have a9:=hawake [Row.mix (eGr g),.mix (eCs c)]
 have p1:¬ (((L c).length:Int)>130):=by omega
 have p2:¬ (((L o).length:Int)>62):=by omega
 have hf2:=hf
 unfold fewB at hf2
 simp only [Bool.and_eq_true,Bool.or_eq_true,decide_eq_true_iff] at hf2
 have hi:(L g.init).length<=1000:=by omega
 have he:(L g.edges).length<=10000:=by omega
 have hz:Qx PP 33=some Z5:=Ut
 have hld0:load PP 25 (.ptr 0 0) [Row.mix (eGr g),.mix (eCs c)]=some (.agg (eGr g)):=Wy rfl
 have hld1:load PP 54 (.ptr 1 0) [Row.mix (eGr g),.mix (eCs c)]=some (.agg (eCs c)):=UF rfl
 have h13:=fun σ=>S13 (g:=g) (σ:=σ) hi he
 have h14:=fun σ=>S26 (c:=c) (by omega) σ
 have h16:=fun σ=>S16 (o:=o) (σ:=σ) (by omega)
 have h17:=fun σ=>S17 (g:=g) hi he σ
 have h18:=fun σ=>S28 (g:=g) (c:=c) (by omega) σ
 simp only [pI] at h17 h18
 have e00:decide ((0:Int)=0)=true:=rfl
 have hLo:L (some (L o))=L o:=rfl
 by_cases hc:errC g c=0
 ·
  have hc2:=hc
  unfold errC at hc2
  have q2:errG g=0:=by
   by_cases q:errG g=0
   ·exact q
   ·rw [if_neg q] at hc2; exact absurd hc2 q
  have q3:Jc g c=0:=by rw [if_pos q2] at hc2; exact hc2
  obtain ⟨hg,n30,e120,htk⟩:=errG_zero q2
  have hh:=errCR_zero q3
  have hhO:COk (ownG g) (some (L c)):=⟨hh.cl,hh.cv⟩
  obtain ⟨n8,e16⟩:=fewB_small hf n30 e120
  obtain ⟨B,E',hx0,h12⟩:=S25 hg.own hhO n8 e16 hc [Row.mix (eGr g),.mix (eCs c)]
  have hia:=iniS_asc hg.own
  have hM:∀ x∈B,(L (oE (mvS (ownG g) (some (L c)) x))).length<=16:=fun x _=>by rw [L_oE]; exact mvS_len _ e16 x
  have ha:∀ x∈B,∀ e∈L (oE (mvS (ownG g) (some (L c)) x)),0<=e.a/\e.a<=11:=fun x _ e he=>by rw [L_oE] at he; exact mvS_act hg.own he
  have hext:=hx0.ext0 n8 hia hM ha
  obtain ⟨k1,k2,k3⟩:=hx0.ok n8 hia hM ha
  have hx:ExtG g.n (fun x=>oE (mvS g c x)) (iniS g) B E':=hx0
  have hin:iniS (ownG g)=iniS g:=rfl
  rw [hin] at h12 hext
  have hnl:(nums B (iniS g)).length=(L g.init).length:=by simp [nums,iniS]
  obtain ⟨S,hS,hs,h20⟩:=S29 hg hh n30 e120
  have hia2:=iniS_asc hg
  have ha2:∀ x∈B,∀ e∈L (oE (mvS g c x)),0<=e.a/\e.a<=11:=fun x _ e he=>by rw [L_oE] at he; exact mvS_act hg he
  have hre:=ref_eq n30 hx (refOkS hg hh (ext_RS hg hh hx)) hs hia2 ha2
  rw [hre] at h20
  obtain ⟨x1,x2,x3,x4,x5⟩:=ax_out B (nums B (iniS g)) E'
  generalize hX:mkX B (nums B (iniS g)) E'=X at *
  have hil:=VB hg
  have hsm:XSm X:=⟨by rw [x4,hnl]; omega,by rw [x3]; omega,by rw [x1,List.length_map]; omega,by rw [x2,List.length_map]; omega⟩
  have h19:=S19a (x:=X) (y:=X) ⟨rfl,rfl,rfl,rfl,rfl⟩ hsm (by rw [x5]; omega) (by rw [x3]; omega) [.mix (eGr g),.mix (eCs c),.mix (eAx X),.mix (eAx X)]
  have h21:=S21 (x:=X) (by rw [x5]; omega) (by rw [x3]; omega) [.mix (eGr g),.mix (eCs c),.mix (eAx X),.mix (eAx X)]
  obtain ⟨B2,E2,hy0,h15⟩:=S27 (o:=some (L o)) hg.own hhO n8 e16 hc (by rw [hLo]; omega) [.mix (eGr g),.mix (eCs c),.mix (eAx X)]
  obtain ⟨rfl,rfl⟩:=ext_uniq hx (show ExtG g.n (fun x=>oE (mvS g c x)) (iniS g) B2 E2 from hy0)
  rw [hLo] at h15
  have hsl:slS (ownG g) (some (L c)) (L o) ((L o).length-1)=slS g c (L o) ((L o).length-1):=slS_own g c (L o) _
  rw [hsl] at h15
  have hpo:pthE (ownG g) (L o)=pthE g (L o):=rfl
  rw [hpo] at h15
  have h22:=S22 (g:=g) (o:=o) (σ:=[.mix (eGr g),.mix (eCs c),.mix (eAx X),.mix (eAx X)]) (by omega) hi he
  simp only [pI] at h22
  have hla:load PP 25 (.ptr 0 0) [Row.mix (eGr g),.mix (eCs c),.mix (eAx X)]=some (.agg (eGr g)):=Wy rfl
  have hlb:load PP 54 (.ptr 1 0) [Row.mix (eGr g),.mix (eCs c),.mix (eAx X)]=some (.agg (eCs c)):=UF rfl
  have hlc:load PP 25 (.ptr 0 0) [Row.mix (eGr g),.mix (eCs c),.mix (eAx X),.mix (eAx X)]=some (.agg (eGr g)):=Wy rfl
  have hld:load PP 54 (.ptr 1 0) [Row.mix (eGr g),.mix (eCs c),.mix (eAx X),.mix (eAx X)]=some (.agg (eCs c)):=UF rfl
  have hle:load PP 33 (.ptr 2 0) [Row.mix (eGr g),.mix (eCs c),.mix (eAx X),.mix (eAx X)]=some (.agg (eAx X)):=VE rfl
  have hlf:load PP 33 (.ptr 3 0) [Row.mix (eGr g),.mix (eCs c),.mix (eAx X),.mix (eAx X)]=some (.agg (eAx X)):=VE rfl
  by_cases hp0:pthE g (L o)=0
  ·rw [if_pos hp0] at h15
   have hp:=pth_ok hg hp0
   have h24:=S30 (o:=o) hg hh hx hp x1 x2 (by omega) h20 [.mix (eGr g),.mix (eCs c),.mix (eAx X),.mix (eAx X)]
   have h23:=S23s (X:=X) (pth:=o) hh htk hx hp (by omega) x1 x5 x4 x3 hsm hext [.mix (eGr g),.mix (eCs c),.mix (eAx X),.mix (eAx X)]
   refine ⟨[.mix (eGr g),.mix (eCs c),.mix (eAx X),.mix (eAx X)],?_⟩
   rw [F4_eq]
   simp (maxSteps:=4000000) only [Zr,WF,gG,List.length_nil,List.nil_append,List.length_cons,List.cons_append,Nat.reduceAdd,gP,a9,hld0,hld1,h10,ZZ,QO,cs_0 g1,QZ,Zh,gtF p1,gtF p2,h13,h14,h12,ex0,ex1,hz,c_stX,hla,hlb,h16,h15,h17,QV,eqT q2,h18]
   rw [f4_J0_eq]
   simp (maxSteps:=4000000) only [gG,List.length_nil,List.nil_append,List.length_cons,List.cons_append,Nat.reduceAdd,gP,Wh,eqT q3,hla,hlb,h20,hz,c_stY,hlc,hld,hle,hlf,bld46i,h19,h21,h22,eqT hp0,QV,e00,h24,h23]
  ·rw [if_neg hp0] at h15
   refine ⟨[.mix (eGr g),.mix (eCs c),.mix (eAx X),.mix (eAx X)],?_⟩
   have ep:decide (pthE g (L o)=pthE g (L o))=true:=decide_eq_true rfl
   rw [F4_eq]
   simp (maxSteps:=4000000) only [Zr,WF,gG,List.length_nil,List.nil_append,List.length_cons,List.cons_append,Nat.reduceAdd,gP,a9,hld0,hld1,h10,ZZ,QO,cs_0 g1,QZ,Zh,gtF p1,gtF p2,h13,h14,h12,ex0,ex1,hz,c_stX,hla,hlb,h16,h15,h17,QV,eqT q2,h18]
   rw [f4_J0_eq]
   simp (maxSteps:=4000000) only [gG,List.length_nil,List.nil_append,List.length_cons,List.cons_append,Nat.reduceAdd,gP,Wh,eqT q3,hla,hlb,h20,hz,c_stY,hlc,hld,hle,hlf,bld46i,h19,h21,h22,eqF hp0,QV,ep,len22_nil,e00]
 ·
  have hco:errC (ownG g) (some (L c))≠0:=hc
  have h12:=S25e (g:=ownG g) (c:=some (L c)) hi he (show (L c).length<=1000 by omega) hco [Row.mix (eGr g),.mix (eCs c)]
  have h15:=S27e (g:=ownG g) (c:=some (L c)) (o:=some (L o)) hi he (show (L c).length<=1000 by omega) hco [.mix (eGr g),.mix (eCs c),.mix (eAx zAx)]
  have ho:errC (ownG g) (some (L c))=errC g c:=rfl
  rw [ho] at h12 h15
  have hla:load PP 25 (.ptr 0 0) [Row.mix (eGr g),.mix (eCs c),.mix (eAx zAx)]=some (.agg (eGr g)):=Wy rfl
  have hlb:load PP 54 (.ptr 1 0) [Row.mix (eGr g),.mix (eCs c),.mix (eAx zAx)]=some (.agg (eCs c)):=UF rfl
  have hlc:load PP 33 (.ptr 2 0) [Row.mix (eGr g),.mix (eCs c),.mix (eAx zAx)]=some (.agg (eAx zAx)):=VE rfl
  have h19:=S19b hc [.mix (eGr g),.mix (eCs c),.mix (eAx zAx)]
  have ec:decide (errC g c=errC g c)=true:=decide_eq_true rfl
  refine ⟨[.mix (eGr g),.mix (eCs c),.mix (eAx zAx)],?_⟩
  rw [F4_eq]
  by_cases q2:errG g=0
  ·have e1:Jc g c=errC g c:=by unfold errC; rw [if_pos q2]
   rw [e1] at h18
   simp (maxSteps:=4000000) only [Zr,WF,gG,List.length_nil,List.nil_append,List.length_cons,List.cons_append,Nat.reduceAdd,gP,a9,hld0,hld1,h10,ZZ,QO,cs_0 g1,QZ,Zh,gtF p1,gtF p2,h13,h14,h12,ex0,ex1,hz,c_stX,hla,hlb,h16,h15,h17,QV,eqT q2,h18]
   rw [f4_J0_eq]
   simp (maxSteps:=4000000) only [gG,List.length_nil,List.nil_append,List.length_cons,List.cons_append,Nat.reduceAdd,gP,Wh,eqF hc,hlc,bld46i,bld33_0,h19,QV,ec,len22_nil,e00]
  ·have e1:errG g=errC g c:=by unfold errC; rw [if_neg q2]
   rw [e1] at h17
   simp (maxSteps:=4000000) only [Zr,WF,gG,List.length_nil,List.nil_append,List.length_cons,List.cons_append,Nat.reduceAdd,gP,a9,hld0,hld1,h10,ZZ,QO,cs_0 g1,QZ,Zh,gtF p1,gtF p2,h13,h14,h12,ex0,ex1,hz,c_stX,hla,hlb,h16,h15,h17,QV,eqF hc,h18]
   rw [f4_J0_eq]
   simp (maxSteps:=4000000) only [gG,List.length_nil,List.nil_append,List.length_cons,List.cons_append,Nat.reduceAdd,gP,Wh,eqF hc,hlc,bld46i,bld33_0,h19,QV,ec,len22_nil,e00]
end
theorem law4 (hawake:∀ σ,Qv CC 9 [] σ=some (.p (.bool true))) (g:Gr) (c:OI) (o:OI):∃ σ',F4 Qb 0 (.agg (eGr g)) (.agg (eCs c)) (.p (eSl o)) []=some (.p (.bool true),σ'):=by
 have g1:([Row.mix (eGr g),.mix (eCs c)]:Qa)[1]?=some (.mix (eCs c)):=rfl
 have h10:=S10 (g:=g) (σ:=[Row.mix (eGr g),.mix (eCs c)])
 have a9:=hawake [Row.mix (eGr g),.mix (eCs c)]
 have hld0:load PP 25 (.ptr 0 0) [Row.mix (eGr g),.mix (eCs c)]=some (.agg (eGr g)):=Wy rfl
 cases hf:fewB g with
 | false=>
  rw [hf] at h10
  rw [F4_eq]
  simp (maxSteps:=4000000) only [Zr,WF,gG,List.length_nil,List.nil_append,List.length_cons,List.cons_append,Nat.reduceAdd,gP,a9,hld0,h10]
  exact ⟨_,rfl⟩
 | true=>
  rw [hf] at h10
  by_cases q1:(L c).length<=130
  ·have p1:¬ (((L c).length:Int)>130):=by omega
   by_cases q2:(L o).length<=62
   ·exact law4_in hawake hf q1 q2
   ·have p2:(((L o).length:Int)>62):=by omega
    rw [F4_eq]
    simp (maxSteps:=4000000) only [Zr,WF,gG,List.length_nil,List.nil_append,List.length_cons,List.cons_append,Nat.reduceAdd,gP,a9,hld0,h10,ZZ,QO,cs_0 g1,QZ,Zh,gtF p1,gtT p2]
    exact ⟨_,rfl⟩
  ·have p1:(((L c).length:Int)>130):=by omega
   rw [F4_eq]
   simp (maxSteps:=4000000) only [Zr,WF,gG,List.length_nil,List.nil_append,List.length_cons,List.cons_append,Nat.reduceAdd,gP,a9,hld0,h10,ZZ,QO,cs_0 g1,QZ,Zh,gtT p1]
   exact ⟨_,rfl⟩
theorem call4 (hawake:∀ σ,Qv CC 9 [] σ=some (.p (.bool true))) (g:Gr) (c:OI) (o:OI):∃ σ',CC 0 4 [.agg (eGr g),.agg (eCs c),.p (eSl o)] []=some (.p (.bool true),σ'):=by
 obtain ⟨σ',h⟩:=law4 hawake g c o
 exact ⟨σ',F4_call h⟩
end Go.D.StS
end
/- AuxiliaryStutters: for every graph, every stuttering variable and every path the law answers true and leaves its arguments as they were: the given statement, without conditions. -/
section
set_option linter.unusedVariables false
set_option linter.unusedSimpArgs false
set_option maxRecDepth 100000
namespace Go.D
open Go.ChangeShapes Go.WideShapes Go.ChangeAt Go.RowKit
theorem auxiliaryStutters_calls (hawake:Awake) {H:Type} {enc:TypeId×Value->H} {W:World} {base:Nat} {args:Array Value} {ds:List (DataW H)} {ps:List MemPlace}
  (hval:∀ (j:Nat) t v,([25,54,22]:List TypeId).toArray[j]?=some t->args[j]?=some v->Value.okWide PP W .any base t v)
  (hA:DataW.TrodAll enc PP W 0 (fun _=>true) true [25,54,22] args.toList ds ps) :
  Calls PP 4 args W fun e W'=>e=.returned (.bool true)/\Below W.heap.size W W':=by
 obtain ⟨v0,v1,v2,d0,d1,d2,p0,p1,p2,rfl,rfl,rfl,h0,h1,h2⟩:=trodAll_three hA
 obtain ⟨o0,ho0⟩:=read_gr (hval 0 25 v0 rfl rfl) h0
 obtain ⟨o1,ho1⟩:=read_cs (hval 1 54 v1 rfl rfl) h1
 obtain ⟨o2,ho2⟩:=read_sl (hval 2 22 v2 rfl rfl) h2
 obtain ⟨σ',hc⟩:=StS.call4 hawake o0 o1 o2
 refine calls_of hc ⟨rfl,fun j h1 h2=>?_⟩
 match j,h1 with
 | 0,_=>exact ho0
 | 1,_=>exact ho1
 | 2,_=>exact ho2
end Go.D
namespace Go.Proofs.YtkpdgafinpedgaaGreat
open Go.D Go.ChangeShapes Go.WideShapes Go.ChangeAt Go.RowKit
set_option maxRecDepth 100000 in
theorem auxiliaryStutters_lifted (hawake:Awake) (os:Os) (started:os.Started) (H:Type) (enc:TypeId×Value->H) :
  ReturnsInHanded {} Tryz.checked os 4 .any (Rows.auxiliaryStuttersSpec.pre6 enc Tryz.prog Tryz.f4 Rows.auxiliaryStuttersRow.domain false) (Rows.auxiliaryStuttersSpec.post enc Tryz.prog Tryz.f4 false true false false):=by
 refine returnsInHanded_of_change_sized (C:=Tryz.checked) own_ok started (by kernel_rfl) Tryz.func4
  (ChangeSpec.witness6 (enc:=enc) (C:=Tryz.checked) false ⟨#[],#[.agg #[.int .i64 0,.slice none 0 0,.slice none 0 0],.agg #[.slice none 0 0],.slice none 0 0],[]⟩ 8 (by kernel_rfl) (by kernel_rfl) (by kernel_rfl) (by kernel_rfl)) ?_
 intro W base args ds gs before hval0 hW _ hsz0 _
 have hval:∀ (j:Nat) t v,Tryz.f4.params[j]?=some t->args[j]?=some v->Value.okWide Tryz.prog W .any base t v:=hval0
 have hW':=hW
 obtain ⟨p,q,hA0,hV,rfl,_,_⟩:=hW
 have hA:DataW.TrodAll enc Tryz.prog W 0 (fun _=>true) true Tryz.f4.params.toList args.toList ds p:=hA0
 rw [Tryz.params4] at hA hval
 have hA2:=hA
 obtain ⟨v0,v1,v2,d0,d1,d2,p0,p1,p2,rfl,rfl,rfl,h0,h1,h2⟩:=trodAll_three hA
 obtain ⟨rfl,rfl⟩:=trodVars_none hV
 have hlt:∀ x∈p0++p1++p2,x.block<W.heap.size:=fun x hx=>by
  have:=hW'.lt x (by simpa using hx)
  exact this
 have e0:∀ x∈p0,x.block<W.heap.size:=fun x hx=>hlt x (List.mem_append_left _ (List.mem_append_left _ hx))
 have e1:∀ x∈p1,x.block<W.heap.size:=fun x hx=>hlt x (List.mem_append_left _ (List.mem_append_right _ hx))
 have e2:∀ x∈p2,x.block<W.heap.size:=fun x hx=>hlt x (List.mem_append_right _ hx)
 refine (auxiliaryStutters_calls hawake (base:=base) hval hA2).mono ?_
 rintro e W2 ⟨rfl,hnx⟩
 refine ⟨_,rfl,_,_,_,[],p0++(p1++p2),[],hW',?_,?_,rfl,hnx.frame _,fun h=>by cases h⟩
 ·exact trodAll_mk1 (shut_bool ul4 true)
 ·exact trodAll_mk3 (Below.trod laidOut_ok (by kernel_rfl) (of_decide_eq_true (by kernel_rfl)) h0 hnx e0) (Below.trod laidOut_ok (by kernel_rfl) (of_decide_eq_true (by kernel_rfl)) h1 hnx e1) (Below.trod laidOut_ok (by kernel_rfl) (of_decide_eq_true (by kernel_rfl)) h2 hnx e2)
theorem auxiliaryStutters_holds:Rows.AuxiliaryStuttersSaid:=
 OpenClaim.holds_of_wide 4 Tryz.f4 rfl rfl rfl rfl rfl rfl rfl ⟨rfl,rfl,rfl,rfl,rfl⟩ rfl rfl rfl rfl rfl (by kernel_rfl) Tryz.func4 (by kernel_rfl)
  (of_decide_eq_true (by kernel_rfl)) (by unfold Func.isWrapper; first | (rw [if_pos (by decide +kernel)]; kernel_rfl) | (rw [if_neg (by decide +kernel)]; exact ⟨rfl,rfl⟩))
  (fun os started H enc _=>auxiliaryStutters_lifted awake_true os started H enc)
end Go.Proofs.YtkpdgafinpedgaaGreat
end
