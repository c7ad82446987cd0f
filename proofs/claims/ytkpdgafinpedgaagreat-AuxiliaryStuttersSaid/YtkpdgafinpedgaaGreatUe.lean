/- Chapter 22: graph, second part: the numbers of the states. -/
import Derived.Test.YtkpdgafinpedgaaGreatUd
import Derived.Test.YtkpdgafinpedgaaGreatUc
section
set_option linter.unusedVariables false
set_option linter.unusedSimpArgs false
namespace Go.D.StS
open Go.D.Srt
theorem find_set (l:List (E×Int)) (e e':E) (v:Int):WW (setZ l e v) e'=if e=e' then some v else WW l e':=by
 induction l with
 | nil=>rfl
 | cons p l ih=>
  rw [setZ,WW]
  by_cases h1:p.1=e
  ·rw [if_pos h1,WW]
   by_cases h2:e=e'
   ·simp only [h2,if_true]
   ·have h3:¬ p.1=e':=fun h=>h2 (h1.symm.trans h)
    simp only [h2,h3,if_false]
  ·rw [if_neg h1,WW,ih]
   by_cases h2:p.1=e'
   ·have h3:¬ e=e':=fun h=>h1 (h2.trans h.symm)
    simp only [h2,h3,if_true,if_false]
   ·simp only [h2,if_false]
theorem Out.pushG {σ:Qa} {t e lo B sz b n:Nat} {z:List DV} {cs vs:List PV} {x:DV} (hs:ZQ PP t=true) (hu:PP.underlying t=some (.slice e)) (h1:size? PP e=some sz) (h2:bytes? PP e=some b) (h3:Qx PP e=some z)
  (h4:z.length=sz) (hz:0<sz) (hb:0<b) (hb2:b<=1000) (hv:vs.length=sz) (ho:Out σ B sz n cs x) (hn:n<=10000000) (hB:B<=σ.length) (hlo:lo<=B) :
  ∃ x' σ',append PP lo false t t x (.p (.sl true 1 vs)) σ=some (x',σ')/\Out σ' B sz (n+1) (cs++vs) x'/\Others σ σ' x/\Fresh σ x x':=by
 have hsrc:ZE σ sz (.p (.sl true 1 vs))=some (1,vs.map DV.p):=by simp [ZE,hv]
 have hz0:¬ (z.length≠sz\/sz=0):=by omega
 obtain ⟨hc,ho⟩:=ho
 rcases ho with ⟨rfl,rfl⟩ | ⟨hn0,r,ver,rfl,hr,hl⟩
 ·refine ⟨.osl σ.length 0 sz 1 vs,σ++[.tok 0],?_,⟨by simp [hc,hv],.inr ⟨by simp,σ.length,0,?_,QB,hB⟩⟩,?_,?_⟩
  ·have:b<=140737488355328:=by omega
   simp only [append,hs,hu,h1,h2,h3,hz0,hsrc,Um]
   simp [this,hb,ZN,h4,hz,Nat.ne_of_gt hz]
  ·have:cs=[]:=List.length_eq_zero_iff.1 (by simpa using hc)
   rw [this]; simp
  ·intro i row hi _
   exact QM hi
  ·intro r h; right; simpa [UX] using h.symm
 ·refine ⟨.osl r (ver+1) sz (n+1) (cs++vs),σ.set r (.tok (ver+1)),?_,⟨by simp [hc,hv,Nat.add_mul],.inr ⟨by simp,r,ver+1,rfl,?_,hl⟩⟩,?_,?_⟩
  ·have e1:(n+1)*b<=140737488355328:=Nat.le_trans (Nat.mul_le_mul (show n+1<=10000001 by omega) hb2) (by decide)
   have e2:n+1<=140737488355328:=by omega
   have e3:lo<=r:=by omega
   simp only [append,hs,hu,h1,h2,h3,hz0,hsrc,Ux]
   simp [e1,e2,hb,hc,e3,hr,ZN,h4,Nat.ne_of_gt hz]
  ·rw [List.getElem?_set_self (QT hr)]
  ·intro i row hi hne
   rw [List.getElem?_set_ne (fun e=>hne _ _ _ _ _ rfl e.symm)]
   exact hi
  ·intro r' h; left; exact h
structure GY (σ0:Qa) (ext:List DV) (l:List (E×Int)) (A:List E) (o:List DV) (y:DV) (σ:Qa):Prop where
 g:GS σ0 ext l A o σ
 ay:σ[σ0.length+4]?=some (.mix [y])
 ry:RowL σ (σ0.length+5) A y
section
variable {σ0 : Qa} {ext o : List DV} {l : List (E × Int)} {A : List E} {y : DV} {σ : Qa}
theorem GY.snoc (h:GY σ0 ext l A o y σ) (row:Row):GY σ0 ext l A o y (σ++[row]):=⟨h.g.snoc row,QM h.ay,h.ry.snoc row⟩
theorem RowL.setNe {σ:Qa} {B q:Nat} {A:List E} {x:DV} {row:Row} (h:RowL σ B A x) (hq:q<B):RowL (σ.set q row) B A x:=by
 rcases h with h | ⟨r,e1,e2,e3,e4⟩
 ·exact .inl h
 ·exact .inr ⟨r,e1,Qu e2 (by omega),e3,e4⟩
theorem GY.setM (h:GY σ0 ext l A o y σ) (l':List (E×Int)):GY σ0 ext l' A o y (σ.set (σ0.length+2) (.map (entZ l'))):=
 ⟨h.g.setM l',Qu h.ay (by omega),h.ry.setNe (by omega)⟩
theorem GS.setO (h:GS σ0 ext l A o σ) {o':List DV} (ho:o'.length=5):GS σ0 ext l A o' (σ.set (σ0.length+3) (.mix (o'++[.map (σ0.length+2)]))):=by
 have hl:=h.len
 obtain ⟨z,z1,z2⟩:=h.z2
 obtain ⟨y,y1,y2⟩:=h.al
 refine ⟨fun j hj=>?_,Qu h.ex (by omega),⟨z,Qu z1 (by omega),z2⟩,Qu h.mp (by omega),by rw [List.getElem?_set_self (by omega)],ho,y,Qu y1 (by omega),y2.setNe (by omega)⟩
 rw [List.getElem?_set_ne (by omega)]
 exact h.low j hj
theorem GY.setO (h:GY σ0 ext l A o y σ) {o':List DV} (ho:o'.length=5):GY σ0 ext l A o' y (σ.set (σ0.length+3) (.mix (o'++[.map (σ0.length+2)]))):=
 ⟨h.g.setO ho,Qu h.ay (by omega),h.ry.setNe (by omega)⟩
theorem RowL.oth {σ σ':Qa} {B lo sz n:Nat} {cs:List PV} {A:List E} {x z:DV} (h:RowL σ B A x) (hz:Out σ lo sz n cs z) (ho:Others σ σ' z):RowL σ' B A x:=by
 rcases h with h | ⟨r,e1,e2,e3,e4⟩
 ·exact .inl h
 ·exact .inr ⟨r,e1,Others.mix ho hz e2 (fun v e=>by cases e),e3,e4⟩
theorem GY.oth {σ':Qa} {sz n:Nat} {cs:List PV} {z:DV} (h:GY σ0 ext l A o y σ) (hz:Out σ (σ0.length+5) sz n cs z) (ho:Others σ σ' z):GY σ0 ext l A o y σ':=by
 have hl:=h.g.len
 obtain ⟨c,z1,z2⟩:=h.g.z2
 obtain ⟨y',y1,y2⟩:=h.g.al
 have km:∀ (j:Nat) (cs:List DV),σ[j]?=some (Row.mix cs)->σ'[j]?=some (Row.mix cs):=fun j cs e=>Others.mix ho hz e (fun v e=>by cases e)
 refine ⟨⟨fun j hj=>?_,km _ _ h.g.ex,⟨c,km _ _ z1,z2⟩,Others.mix ho hz h.g.mp (fun v e=>by cases e),km _ _ h.g.ot,h.g.ol,y',km _ _ y1,y2.oth hz ho⟩,km _ _ h.ay,h.ry.oth hz ho⟩
 have hj2:=h.g.low j hj
 cases hx:σ0[j]? with
 | none=>have:=List.getElem?_eq_none_iff.1 hx; omega
 | some row=>
  rw [hx] at hj2
  refine ho j row hj2 ?_
  rintro r ver sz' n' cs' rfl rfl
  rcases hz.2 with ⟨_,e⟩ | ⟨_,r',ver',e,_,e3⟩
  ·cases e
  ·injection e with e; omega
theorem GY.at (h:GY σ0 ext l A o y σ) {k:Nat} (hk:k<A.length):∃ p,indexAddr PP 134 y (.p (.int .i64 (k:Nat)))=some p/\load PP 102 p σ=some (val (ge A k)):=by
 rcases h.ry with ⟨e,_⟩ | ⟨r,rfl,e2,_,_⟩
 ·rw [e] at hk; exact absurd hk (by simp)
 ·refine ⟨_,idxL hk,?_⟩
  have:=ldW (A:=A) (QT e2) hk
  rwa [W_eq e2] at this
theorem eqCs_ints (l:List Int):eqCs (Qr l) (Qr l)=true:=by
 induction l with
 | nil=>rfl
 | cons a l ih=>
  have e:Qr (a::l)=.int .i64 a::Qr l:=rfl
  simp [e,eqCs,ih]
theorem sameV_out {σ:Qa} {lo n:Nat} {l:List Int} {x:DV} (h:Out σ lo 1 n (Qr l) x):Jn (some x) (some x)=true:=by
 rcases h.2 with ⟨_,rfl⟩ | ⟨_,r,ver,rfl,_,_⟩
 ·rfl
 ·simp [Jn,eqCs_ints]
theorem sameInt_i (v:Int):sameInt (some (.p (.int .i64 v))) (some (.p (.int .i64 v)))=true:=by simp [sameInt]
theorem s22':size? PP 22=some 1:=Eq.trans (by kernel_rfl) rfl
theorem s23':size? PP 23=some 1:=Eq.trans (by kernel_rfl) rfl
theorem st22_3 {σ:Qa} {t:Nat} {c0 c1 c2 c3 c4 c5 v:DV} (h:σ[t]?=some (.mix [c0,c1,c2,c3,c4,c5])) (hv:v.one=true) (hc:v.cells=[v]):store PP 0 22 (.ptr t 3) v σ=some (σ.set t (.mix [c0,c1,c2,v,c4,c5])):=by
 have e3:QS [c0,c1,c2,c3,c4,c5] 3 [v]=[c0,c1,c2,v,c4,c5]:=rfl
 simp [store,s22',hc,Zo,h,hv,e3]
theorem st22_4 {σ:Qa} {t:Nat} {c0 c1 c2 c3 c4 c5 v:DV} (h:σ[t]?=some (.mix [c0,c1,c2,c3,c4,c5])) (hv:v.one=true) (hc:v.cells=[v]):store PP 0 22 (.ptr t 4) v σ=some (σ.set t (.mix [c0,c1,c2,c3,v,c5])):=by
 have e3:QS [c0,c1,c2,c3,c4,c5] 4 [v]=[c0,c1,c2,c3,v,c5]:=rfl
 simp [store,s22',hc,Zo,h,hv,e3]
theorem st22_1 {σ:Qa} {t:Nat} {c0 c1 c2 c3 c4 c5 v:DV} (h:σ[t]?=some (.mix [c0,c1,c2,c3,c4,c5])) (hv:v.one=true) (hc:v.cells=[v]):store PP 0 22 (.ptr t 1) v σ=some (σ.set t (.mix [c0,v,c2,c3,c4,c5])):=by
 have e3:QS [c0,c1,c2,c3,c4,c5] 1 [v]=[c0,v,c2,c3,c4,c5]:=rfl
 simp [store,s22',hc,Zo,h,hv,e3]
theorem st23_2 {σ:Qa} {t:Nat} {c0 c1 c2 c3 c4 c5 v:DV} (h:σ[t]?=some (.mix [c0,c1,c2,c3,c4,c5])) (hv:v.one=true) (hc:v.cells=[v]):store PP 0 23 (.ptr t 2) v σ=some (σ.set t (.mix [c0,c1,v,c3,c4,c5])):=by
 have e3:QS [c0,c1,c2,c3,c4,c5] 2 [v]=[c0,c1,v,c3,c4,c5]:=rfl
 simp [store,s23',hc,Zo,h,hv,e3]
theorem st3_0 {σ:Qa} {t:Nat} {c0 c1 c2 c3 c4 c5:DV} {v:Int} (h:σ[t]?=some (.mix [c0,c1,c2,c3,c4,c5])):store PP 0 3 (.ptr t 0) (.p (.int .i64 v)) σ=some (σ.set t (.mix [.p (.int .i64 v),c1,c2,c3,c4,c5])):=by
 have e3:QS [c0,c1,c2,c3,c4,c5] 0 [.p (.int .i64 v)]=[.p (.int .i64 v),c1,c2,c3,c4,c5]:=rfl
 have e4:(DV.p (.int .i64 v)).one=true:=rfl
 have e5:(DV.p (.int .i64 v)).cells=[.p (.int .i64 v)]:=rfl
 simp [store,s3,e5,Zo,h,e4,e3]
theorem Out.setM {σ:Qa} {lo sz n:Nat} {cs:List PV} {x:DV} (ho:Out σ lo sz n cs x) {q:Nat} {c:List DV} (hq:σ[q]?=some (.mix c)) (row:Row):Out (σ.set q row) lo sz n cs x:=by
 refine ⟨ho.1,?_⟩
 rcases ho.2 with h | ⟨h0,r,ver,e1,e2,e3⟩
 ·exact .inl h
 ·refine .inr ⟨h0,r,ver,e1,Qu e2 ?_,e3⟩
  rintro rfl
  rw [hq] at e2; exact absurd e2 (by simp)
theorem Out.setLow {σ:Qa} {lo sz n:Nat} {cs:List PV} {x:DV} (ho:Out σ lo sz n cs x) {q:Nat} (hq:q<lo) (row:Row):Out (σ.set q row) lo sz n cs x:=by
 refine ⟨ho.1,?_⟩
 rcases ho.2 with h | ⟨h0,r,ver,e1,e2,e3⟩
 ·exact .inl h
 ·exact .inr ⟨h0,r,ver,e1,Qu e2 (by omega),e3⟩
theorem Out.snocM {σ:Qa} {lo sz n:Nat} {cs:List PV} {x:DV} (ho:Out σ lo sz n cs x) (row:Row):Out (σ++[row]) lo sz n cs x:=by
 refine ⟨ho.1,?_⟩
 rcases ho.2 with h | ⟨h0,r,ver,e1,e2,e3⟩
 ·exact .inl h
 ·exact .inr ⟨h0,r,ver,e1,QM e2,e3⟩
theorem QQ {σ:Qa} {lo sz n:Nat} {cs:List PV} {x:DV} (ho:Out σ lo sz n cs x):x.one=true/\x.cells=[x]:=by
 rcases ho.2 with ⟨_,rfl⟩ | ⟨_,q,ver,rfl,_⟩ <;> exact ⟨rfl,rfl⟩
end
section
variable {σ0 : Qa} {B : List E} {y y0 f : DV} {n0 i0 e0 : DV}
theorem gr_L3 (hB:B.Nodup) (hn:B.length<=1000):∀ (d k:Nat) (l:List (E×Int)) (bx ax:DV) (σ:Qa),B.length-k=d->k<=B.length->GY σ0 [y0,f] l B [n0,i0,e0,bx,ax] y σ->
  Out σ (σ0.length+5) 1 k (Qr ((B.take k).map Prod.fst)) bx->Out σ (σ0.length+5) 1 k (Qr ((B.take k).map Prod.snd)) ax->Apart bx ax->(∀ j,j<k->WW l (ge B j)=some (j:Int))->
  ∃ l' bx' ax' σ',f85_L3 Qb 0 (.ptr σ0.length 0) (.ptr (σ0.length+1) 0) (.ptr (σ0.length+3) 0) (.ptr (σ0.length+4) 0) y (N B.length) (N k) σ =
   ((len PP 134 y0 σ').bind fun x96=>f85_L4 Qb 0 (.ptr σ0.length 0) (.ptr (σ0.length+1) 0) (.ptr (σ0.length+3) 0) (.ptr (σ0.length+4) 0) y0 x96 (N 0) σ')/\
   GY σ0 [y0,f] l' B [.p (pI B.length),i0,e0,bx',ax'] y σ'/\Out σ' (σ0.length+5) 1 B.length (Qr (B.map Prod.fst)) bx'/\Out σ' (σ0.length+5) 1 B.length (Qr (B.map Prod.snd)) ax'/\Apart bx' ax'/\(∀ j,j<B.length->WW l' (ge B j)=some (j:Int))
 | 0,k,l,bx,ax,σ,hd,hk,h,hb,ha,hap,hf=>by
  have e:k=B.length:=by omega
  subst e
  have hot:=h.g.ot
  have h2:=h.setO (o':=[.p (pI B.length),i0,e0,bx,ax]) rfl
  have hl:=h.g.len
  refine ⟨l,bx,ax,_,?_,h2,by have:=Out.setLow hb (q:=σ0.length+3) (by omega) (.mix ([.p (pI B.length),i0,e0,bx,ax]++[.map (σ0.length+2)])); rwa [List.take_length] at this,
   by have:=Out.setLow ha (q:=σ0.length+3) (by omega) (.mix ([.p (pI B.length),i0,e0,bx,ax]++[.map (σ0.length+2)])); rwa [List.take_length] at this,hap,hf⟩
  have hex:=h2.g.ex
  have hst:=st3_0 (v:=((B.length:Nat):Int)) hot
  rw [f85_L3_eq Qb rfl]
  simp (disch:=omega) only [N,Qn,ltF,gG,Vk,Qc (off:=0) h.ay rfl,lenR h.ry,UR,Wq,We,fa137_0,gP,hst]
  simp only [gP] at hex
  simp only [Qc (off:=0) hex rfl,gG,gP]
  rfl
 | d+1,k,l,bx,ax,σ,hd,hk,h,hb,ha,hap,hf=>by
  have hkl:k<B.length:=by omega
  obtain ⟨p,hp1,hp2⟩:=h.at hkl
  have hl:=h.g.len
  have hsn:=stNew (lo:=0) (σ:=σ) (ge B k) (Nat.zero_le _)
  have h1:=(h.snoc (.mix (cel (ge B k)))).setM (setZ l (ge B k) (k:Int))
  have hup:=updZ (h.snoc (.mix (cel (ge B k)))).g.mp (ge B k) (k:Int)
  have hom:=(h.snoc (.mix (cel (ge B k)))).g.omap
  have hB7:(σ++[Row.mix (cel (ge B k))])[σ.length]?=some (.mix (cel (ge B k))):=QB
  have hB8:=Qu (r:=.map (entZ (setZ l (ge B k) (k:Int)))) hB7 (show σ.length≠σ0.length+2 by omega)
  have hb8:=Out.setLow (Out.snocM hb (.mix (cel (ge B k)))) (q:=σ0.length+2) (by omega) (.map (entZ (setZ l (ge B k) (k:Int))))
  have ha8:=Out.setLow (Out.snocM ha (.mix (cel (ge B k)))) (q:=σ0.length+2) (by omega) (.map (entZ (setZ l (ge B k) (k:Int))))
  generalize hσ8:(σ++[Row.mix (cel (ge B k))]).set (σ0.length+2) (.map (entZ (setZ l (ge B k) (k:Int))))=σ8 at *
  have hl8:=h1.g.len
  obtain ⟨bx2,σ9,p1,p2,p3,p4⟩:=Out.pushG (lo:=0) (vs:=[pI (ge B k).1]) UI u22 s3 VO Uy rfl (by decide) (by decide) (by decide) rfl hb8 (by omega) hl8 (Nat.zero_le _)
  have h9:=h1.oth hb8 p3
  have ha9:=Out.other ha8 p3 hap
  have hap9:Apart bx2 ax:=Apart.fresh hap p4 ha8
  have hB9:σ9[σ.length]?=some (.mix (cel (ge B k))):=Others.mix p3 hb8 hB8 (fun v e=>by cases e)
  have hl9:=h9.g.len
  obtain ⟨ax2,σ10,q1,q2,q3,q4⟩:=Out.pushG (lo:=0) (vs:=[pI (ge B k).2]) UI u22 s3 VO Uy rfl (by decide) (by decide) (by decide) rfl ha9 (by omega) hl9 (Nat.zero_le _)
  have h10:=h9.oth ha9 q3
  have hb10:=Out.other p2 q3 hap9.symm
  have hap10:Apart bx2 ax2:=(Apart.fresh hap9.symm q4 p2).symm
  have hB10:σ10[σ.length]?=some (.mix (cel (ge B k))):=Others.mix q3 ha9 hB9 (fun v e=>by cases e)
  have o8:=h1.g.ot
  have o9:=h9.g.ot
  have o10:=h10.g.ot
  have hs1:=st22_3 o10 (QQ p2).1 (QQ p2).2
  have h13:=h10.setO (o':=[n0,i0,e0,bx2,ax]) rfl
  have hb13:=Out.setLow hb10 (q:=σ0.length+3) (by omega) (.mix ([n0,i0,e0,bx2,ax]++[.map (σ0.length+2)]))
  have ha13:=Out.setLow q2 (q:=σ0.length+3) (by omega) (.mix ([n0,i0,e0,bx2,ax]++[.map (σ0.length+2)]))
  have hB13:=Qu (r:=.mix ([n0,i0,e0,bx2,ax]++[.map (σ0.length+2)])) hB10 (show σ.length≠σ0.length+3 by omega)
  simp only [gP] at h13 hb13 ha13 hB13 hs1
  generalize hσ13:σ10.set (σ0.length+3) (.mix [n0,i0,e0,bx2,ax,.map (σ0.length+2)])=σ13 at *
  have o13:=h13.g.ot
  have hs2:=st22_4 o13 (QQ q2).1 (QQ q2).2
  have h14:=h13.setO (o':=[n0,i0,e0,bx2,ax2]) rfl
  have hb14:=Out.setLow hb13 (q:=σ0.length+3) (by omega) (.mix ([n0,i0,e0,bx2,ax2]++[.map (σ0.length+2)]))
  have ha14:=Out.setLow ha13 (q:=σ0.length+3) (by omega) (.mix ([n0,i0,e0,bx2,ax2]++[.map (σ0.length+2)]))
  have hB14:=Qu (r:=.mix ([n0,i0,e0,bx2,ax2]++[.map (σ0.length+2)])) hB13 (show σ.length≠σ0.length+3 by omega)
  simp only [gP] at h14 hb14 ha14 hB14 hs2
  generalize hσ14:σ13.set (σ0.length+3) (.mix [n0,i0,e0,bx2,ax2,.map (σ0.length+2)])=σ14 at *
  have e1:Qr ((B.take k).map Prod.fst)++[pI (ge B k).1]=Qr ((B.take (k+1)).map Prod.fst):=by
   rw [List.take_succ_eq_append_getElem hkl,Zi hkl]; unfold Qr; rw [List.map_append,List.map_append]; rfl
  have e2:Qr ((B.take k).map Prod.snd)++[pI (ge B k).2]=Qr ((B.take (k+1)).map Prod.snd):=by
   rw [List.take_succ_eq_append_getElem hkl,Zi hkl]; unfold Qr; rw [List.map_append,List.map_append]; rfl
  rw [e1] at hb14
  rw [e2] at ha14
  obtain ⟨l',bx',ax',σ',r1,r2⟩:=gr_L3 hB hn d (k+1) (setZ l (ge B k) (k:Int)) bx2 ax2 σ14 (by omega) (by omega) h14 hb14 ha14 hap10 (fun j hj=>by
   rw [find_set]
   by_cases e:ge B k=ge B j
   ·rw [Zi hkl,Zi (show j<B.length by omega)] at e
    have:=(List.getElem_inj hB).1 e
    rw [if_pos (by rw [Zi hkl,Zi (show j<B.length by omega)]; exact e),this]
   ·rw [if_neg e]
    refine hf j ?_
    by_cases e3:j=k
    ·subst e3; exact absurd rfl e
    ·omega)
  refine ⟨l',bx',ax',σ',?_,r2⟩
  simp only [gP] at o8 o9
  have i8:=Qc (off:=1) hB8 (v:=.p (.int .i64 (ge B k).2)) rfl
  have i9:=Qc (off:=1) hB9 (v:=.p (.int .i64 (ge B k).2)) rfl
  have i10:=Qc (off:=1) hB10 (v:=.p (.int .i64 (ge B k).2)) rfl
  have i13:=Qc (off:=1) hB13 (v:=.p (.int .i64 (ge B k).2)) rfl
  have i14:=Qc (off:=1) hB14 (v:=.p (.int .i64 (ge B k).2)) rfl
  have v8:=Qc (off:=4) o8 (v:=ax) rfl
  have v9:=Qc (off:=4) o9 (v:=ax) rfl
  have w8:=Qc (off:=3) o8 (v:=bx) rfl
  have hsv:=sameV_out ha8
  rw [<-r1,f85_L3_eq Qb rfl]
  simp (disch:=omega) only [N,Qn,ltT,gG,hp1,hp2,Jd,hsn,UR,UD,Wq,Wi,Vd,fa102_0,Uh,gP,UB,hom,Jt hB7,hup,QO,QF,w8,Qc (off:=0) hB8 (v:=.p (.int .i64 (ge B k).1)) rfl,Vs,p1,v9,i9,q1,hs1,hs2,
   i8,i10,i13,i14,v8,hsv,sameInt_i,List.all_cons,List.all_nil,Bool.and_true,cond_true,add1]
end
end Go.D.StS
end
/- Equations of functions 113, 123, 136, 139, 141, 142, 153, 163, 152, 114, printed by gen.py. -/
section
set_option linter.unusedVariables false
set_option maxRecDepth 10000
namespace Go.D
open Go.Proofs
noncomputable section
variable (G:Qe) (lo:Nat) {σ:Qa} {r:DV×Qa}
open _root_.Go.D.Code (fstC sndC)
open _root_.Go.D.Ann (left right)
def c113_0:Code:=Qs Tryz.f113
def a113_0:Ann:=(pol 113).ann
def F113 (a:DV) (σ:Qa):RS:=
 Qm G PP (pol 113) CC lo c113_0 a113_0 (a::zn 10 []) σ (finR PP Tryz.f113.results.toList)
theorem F113_eq (G:Qe) (lo:Nat) (a:DV) (σ:Qa):F113 G lo a σ =
 (len PP 22 a σ).bind fun f=>
 (convert PP 3 165 f).bind fun k=>
 (Qg CC (DV.fn 122 []) [k] σ).bind fun g=>
 (Qd CC lo (DV.fn 123 []) [a,I0,f,g] σ).bind fun r10_1=>
 some ((DV.tuple []),r10_1.2):=by kernel_rfl
theorem F113_call {lo:Nat} {a:DV} (h:F113 Qb lo a σ=some r):CC lo 113 [a] σ=some r:=
 callL_run Tryz.func113 (by decide +kernel) rfl (by decide +kernel) h
def c123_0:Code:=Qs Tryz.f123
def a123_0:Ann:=(pol 123).ann
def a123_4:Ann:=right (right a123_0)
def a123_5:Ann:=left a123_4
def c123_6:Code:=fstC (fstC (sndC (sndC c123_0)))
def a123_6:Ann:=left a123_5
def c123_33:Code:=sndC (sndC (sndC (sndC (fstC c123_6))))
def a123_33:Ann:=right (right (right (right (left a123_6))))
def c123_45:Code:=sndC (sndC c123_33)
def a123_45:Ann:=right (right a123_33)
def c123_55:Code:=sndC c123_45
def a123_55:Ann:=right a123_45
def f123_L0 (a b c d k g:DV) (σ:Qa):RS:=
 Qm G PP (pol 123) CC lo (.loop c123_6) a123_5 (a::b::c::d::Z::Z::Z::Z::k::g::zn 124 []) σ
 (Qf 0 a123_4 (finR PP Tryz.f123.results.toList))
def f123_J0 (a b c d k g i b8 Q u o z au S V ai aj aq Y L C x:DV) (σ:Qa):RS:=
 (seqC G PP (pol 123) CC lo c123_33 a123_33 (Qf 1 a123_6 (QN G PP (pol 123) CC lo c123_6 a123_5 (Qf 0 a123_4 (finR PP Tryz.f123.results.toList))))) .normal (a::b::c::d::Z::Z::Z::Z::k::g::i::zn 8 (b8::Q::u::o::z::Z::Z::Z::Z::au::S::Z::Z::Z::Z::V::ai::aj::aq::Y::L::C::x::zn 92 [])) σ
def f123_J1 (a b c d k g i j l b8 Q u o z au S V ai aj aq Y L C x y X P N t J E ak ar az T W aa b9 be bp av bc bb:DV) (σ:Qa):RS:=
 (seqC G PP (pol 123) CC lo c123_45 a123_45 (Qf 1 a123_6 (QN G PP (pol 123) CC lo c123_6 a123_5 (Qf 0 a123_4 (finR PP Tryz.f123.results.toList))))) .normal (a::b::c::d::Z::Z::Z::Z::k::g::i::j::l::zn 6 (b8::Q::u::o::z::Z::Z::Z::Z::au::S::Z::Z::Z::Z::V::ai::aj::aq::Y::L::C::x::y::X::P::N::t::J::E::ak::ar::az::T::W::aa::b9::be::bp::av::bc::bb::zn 73 [])) σ
def f123_J2 (a b c d k g i j l b8 Q u o z au S V ai aj aq Y L C x y X P N t J E ak ar az T W aa b9 be bp av bc bb bh bm bi bj bu bg bf cm dc br ba cz:DV) (σ:Qa):RS:=
 (seqC G PP (pol 123) CC lo c123_55 a123_55 (Qf 1 a123_6 (QN G PP (pol 123) CC lo c123_6 a123_5 (Qf 0 a123_4 (finR PP Tryz.f123.results.toList))))) .normal (a::b::c::d::Z::Z::Z::Z::k::g::i::j::l::zn 6 (b8::Q::u::o::z::Z::Z::Z::Z::au::S::Z::Z::Z::Z::V::ai::aj::aq::Y::L::C::x::y::X::P::N::t::J::E::ak::ar::az::T::W::aa::b9::be::bp::av::bc::bb::bh::bm::bi::bj::bu::bg::bf::cm::dc::br::ba::cz::zn 61 [])) σ
def F123 (a b c d:DV) (σ:Qa):RS:=
 Qm G PP (pol 123) CC lo c123_0 a123_0 (a::b::c::d::zn 130 []) σ (finR PP Tryz.f123.results.toList)
theorem f123_J0_eq (G:Qe) (lo:Nat) (a b c d k g i b8 Q u o z au S V ai aj aq Y L C x:DV) (σ:Qa):f123_J0 G lo a b c d k g i b8 Q u o z au S V ai aj aq Y L C x σ =
 (Qd CC lo (DV.fn 139 []) [a,b,c] σ).bind fun r46_4=>
 (Qj r46_4.1 0).bind fun J=>
 (Qj r46_4.1 1).bind fun E=>
 (binOp PP .eql 169 E (DV.p (PV.int IntKind.i64 (2)))).bind fun ar=>
 Qh ar
 (
 (Qd CC lo (DV.fn 140 []) [a,b,c] r46_4.2).bind fun r54_5=>
 (binOp PP .sub 3 c I1).bind fun be=>
 (binOp PP .sub 3 J b).bind fun bc=>
 (binOp PP .sub 3 be bc).bind fun bb=>
 f123_J1 G lo a b c d k g i bb I1 b8 Q u o z au S V ai aj aq Y L C x r46_4.1 a b c r46_4.1 J E E ar a b c r54_5.1 c be J b bc bb r54_5.2
 )
 (
 f123_J1 G lo a b c d k g i J E b8 Q u o z au S V ai aj aq Y L C x r46_4.1 a b c r46_4.1 J E E ar Z Z Z Z Z Z Z Z Z Z r46_4.2
 ):=by kernel_rfl
theorem f123_J1_eq (G:Qe) (lo:Nat) (a b c d k g i j l b8 Q u o z au S V ai aj aq Y L C x y X P N t J E ak ar az T W aa b9 be bp av bc bb:DV) (σ:Qa):f123_J1 G lo a b c d k g i j l b8 Q u o z au S V ai aj aq Y L C x y X P N t J E ak ar az T W aa b9 be bp av bc bb σ =
 G _ k true (some (g,σ)) σ fun bi σ6=>
 (Qt k bi (DV.p (PV.bool false))).bind fun bj=>
 G _ bj true (some (l,σ6)) σ6 fun bg σ7=>
 Gp G bj true (binOp PP .eql 169 bg I1) σ7 fun bf σ8=>
 (Qt bj bf (DV.p (PV.bool false))).bind fun cm=>
 Qh cm
 (
 (Qd CC lo (DV.fn 141 []) [a,b,c] σ8).bind fun r72_9=>
 Qh r72_9.1
 (
 some ((DV.tuple []),r72_9.2)
 )
 (
 f123_J2 G lo a b c d k g i j l b8 Q u o z au S V ai aj aq Y L C x y X P N t J E ak ar az T W aa b9 be bp av bc bb k k bi bj bj bg bf cm a b c r72_9.1 r72_9.2
 )
 )
 (
 f123_J2 G lo a b c d k g i j l b8 Q u o z au S V ai aj aq Y L C x y X P N t J E ak ar az T W aa b9 be bp av bc bb k k bi bj bj bg bf cm Z Z Z Z σ8
 ):=by kernel_rfl
theorem f123_J2_eq (G:Qe) (lo:Nat) (a b c d k g i j l b8 Q u o z au S V ai aj aq Y L C x y X P N t J E ak ar az T W aa b9 be bp av bc bb bh bm bi bj bu bg bf cm dc br ba cz:DV) (σ:Qa):f123_J2 G lo a b c d k g i j l b8 Q u o z au S V ai aj aq Y L C x y X P N t J E ak ar az T W aa b9 be bp av bc bb bh bm bi bj bu bg bf cm dc br ba cz σ =
 (binOp PP .gtr 3 b I0).bind fun M=>
 G _ M true (some (a,σ)) σ fun ca σ10=>
 G _ M true (some (b,σ10)) σ10 fun bq σ11=>
 Gp G M true (binOp PP .sub 3 bq I1) σ11 fun bz σ12=>
 Gp G M true (indexAddr PP 22 ca bz) σ12 fun bv σ13=>
 Gp G M true (load PP 3 bv σ13) σ13 fun c7 σ14=>
 G _ M true (some (a,σ14)) σ14 fun cw σ15=>
 G _ M true (some (j,σ15)) σ15 fun n σ16=>
 Gp G M true (indexAddr PP 22 cw n) σ16 fun cr σ17=>
 Gp G M true (load PP 3 cr σ17) σ17 fun bk σ18=>
 Gp G M true (Qg CC (DV.fn 142 []) [c7,bk] σ18) σ18 fun bt σ19=>
 Gp G M true (unOp .not bt) σ19 fun bn σ20=>
 (Qt M bn (DV.p (PV.bool false))).bind fun bw=>
 Qh bw
 (
 (Qd CC lo (DV.fn 143 []) [a,b,c,j] σ20).bind fun r92_21=>
 f123_L0 G lo a r92_21.1 c d k g r92_21.2
 )
 (
 (Qd CC lo (DV.fn 144 []) [a,b,c,j] σ20).bind fun r99_22=>
 (Qj r99_22.1 0).bind fun bl=>
 (Qj r99_22.1 1).bind fun dl=>
 (binOp PP .sub 3 bl b).bind fun dm=>
 (binOp PP .sub 3 c bl).bind fun dj=>
 (binOp PP .quo 3 i (DV.p (PV.int IntKind.i64 (8)))).bind fun dd=>
 (binOp PP .lss 3 dm dj).bind fun c9=>
 Qh c9
 (
 (binOp PP .geq 3 dm dd).bind fun di=>
 (Qd CC lo (DV.fn 123 []) [a,b,bl,d] r99_22.2).bind fun r121_23=>
 (binOp PP .add 3 bl I1).bind fun dq=>
 f123_L0 G lo a dq c d di dl r121_23.2
 )
 (
 (binOp PP .geq 3 dj dd).bind fun ee=>
 (binOp PP .add 3 bl I1).bind fun de=>
 (Qd CC lo (DV.fn 123 []) [a,de,c,d] r99_22.2).bind fun r132_24=>
 f123_L0 G lo a b bl d ee dl r132_24.2
 )
 ):=by kernel_rfl
theorem f123_L0_eqN (G:Qe) (hG:Qo G) (lo:Nat) (a b c d k g:DV) (σ:Qa):f123_L0 G lo a b c d k g σ =
 (binOp PP .sub 3 c b).bind fun u=>
 (binOp PP .leq 3 u (DV.p (PV.int IntKind.i64 (12)))).bind fun z=>
 Qh z
 (
 (Qd CC lo (DV.fn 136 []) [a,b,c] σ).bind fun r27_1=>
 some ((DV.tuple []),r27_1.2)
 )
 (
 (binOp PP .eql 3 d I0).bind fun S=>
 Qh S
 (
 (Qd CC lo (DV.fn 137 []) [a,b,c] σ).bind fun r33_2=>
 some ((DV.tuple []),r33_2.2)
 )
 (
 (unOp .not k).bind fun ai=>
 Qh ai
 (
 (Qd CC lo (DV.fn 138 []) [a,b,c] σ).bind fun r39_3=>
 (binOp PP .sub 3 d I1).bind fun x=>
 (Qd CC lo (DV.fn 139 []) [a,b,c] r39_3.2).bind fun r46_4=>
 (Qj r46_4.1 0).bind fun J=>
 (Qj r46_4.1 1).bind fun E=>
 (binOp PP .eql 169 E (DV.p (PV.int IntKind.i64 (2)))).bind fun ar=>
 Qh ar
 (
 (Qd CC lo (DV.fn 140 []) [a,b,c] r46_4.2).bind fun r54_5=>
 (binOp PP .sub 3 c I1).bind fun be=>
 (binOp PP .sub 3 J b).bind fun bc=>
 (binOp PP .sub 3 be bc).bind fun bb=>
 G _ k true (some (g,r54_5.2)) r54_5.2 fun bi σ6=>
 (Qt k bi (DV.p (PV.bool false))).bind fun bj=>
 G _ bj true (some (I1,σ6)) σ6 fun bg σ7=>
 Gp G bj true (binOp PP .eql 169 bg I1) σ7 fun bf σ8=>
 (Qt bj bf (DV.p (PV.bool false))).bind fun cm=>
 Qh cm
 (
 (Qd CC lo (DV.fn 141 []) [a,b,c] σ8).bind fun r72_9=>
 Qh r72_9.1
 (
 some ((DV.tuple []),r72_9.2)
 )
 (
 (binOp PP .gtr 3 b I0).bind fun M=>
 G _ M true (some (a,r72_9.2)) r72_9.2 fun ca σ10=>
 G _ M true (some (b,σ10)) σ10 fun bq σ11=>
 Gp G M true (binOp PP .sub 3 bq I1) σ11 fun bz σ12=>
 Gp G M true (indexAddr PP 22 ca bz) σ12 fun bv σ13=>
 Gp G M true (load PP 3 bv σ13) σ13 fun c7 σ14=>
 G _ M true (some (a,σ14)) σ14 fun cw σ15=>
 G _ M true (some (bb,σ15)) σ15 fun n σ16=>
 Gp G M true (indexAddr PP 22 cw n) σ16 fun cr σ17=>
 Gp G M true (load PP 3 cr σ17) σ17 fun bk σ18=>
 Gp G M true (Qg CC (DV.fn 142 []) [c7,bk] σ18) σ18 fun bt σ19=>
 Gp G M true (unOp .not bt) σ19 fun bn σ20=>
 (Qt M bn (DV.p (PV.bool false))).bind fun bw=>
 Qh bw
 (
 (Qd CC lo (DV.fn 143 []) [a,b,c,bb] σ20).bind fun r92_21=>
 f123_L0 G lo a r92_21.1 c x k g r92_21.2
 )
 (
 (Qd CC lo (DV.fn 144 []) [a,b,c,bb] σ20).bind fun r99_22=>
 (Qj r99_22.1 0).bind fun bl=>
 (Qj r99_22.1 1).bind fun dl=>
 (binOp PP .sub 3 bl b).bind fun dm=>
 (binOp PP .sub 3 c bl).bind fun dj=>
 (binOp PP .quo 3 u (DV.p (PV.int IntKind.i64 (8)))).bind fun dd=>
 (binOp PP .lss 3 dm dj).bind fun c9=>
 Qh c9
 (
 (binOp PP .geq 3 dm dd).bind fun di=>
 (Qd CC lo (DV.fn 123 []) [a,b,bl,x] r99_22.2).bind fun r121_23=>
 (binOp PP .add 3 bl I1).bind fun dq=>
 f123_L0 G lo a dq c x di dl r121_23.2
 )
 (
 (binOp PP .geq 3 dj dd).bind fun ee=>
 (binOp PP .add 3 bl I1).bind fun de=>
 (Qd CC lo (DV.fn 123 []) [a,de,c,x] r99_22.2).bind fun r132_24=>
 f123_L0 G lo a b bl x ee dl r132_24.2
 )
 )
 )
 )
 (
 (binOp PP .gtr 3 b I0).bind fun M=>
 G _ M true (some (a,σ8)) σ8 fun ca σ25=>
 G _ M true (some (b,σ25)) σ25 fun bq σ26=>
 Gp G M true (binOp PP .sub 3 bq I1) σ26 fun bz σ27=>
 Gp G M true (indexAddr PP 22 ca bz) σ27 fun bv σ28=>
 Gp G M true (load PP 3 bv σ28) σ28 fun c7 σ29=>
 G _ M true (some (a,σ29)) σ29 fun cw σ30=>
 G _ M true (some (bb,σ30)) σ30 fun n σ31=>
 Gp G M true (indexAddr PP 22 cw n) σ31 fun cr σ32=>
 Gp G M true (load PP 3 cr σ32) σ32 fun bk σ33=>
 Gp G M true (Qg CC (DV.fn 142 []) [c7,bk] σ33) σ33 fun bt σ34=>
 Gp G M true (unOp .not bt) σ34 fun bn σ35=>
 (Qt M bn (DV.p (PV.bool false))).bind fun bw=>
 Qh bw
 (
 (Qd CC lo (DV.fn 143 []) [a,b,c,bb] σ35).bind fun r92_36=>
 f123_L0 G lo a r92_36.1 c x k g r92_36.2
 )
 (
 (Qd CC lo (DV.fn 144 []) [a,b,c,bb] σ35).bind fun r99_37=>
 (Qj r99_37.1 0).bind fun bl=>
 (Qj r99_37.1 1).bind fun dl=>
 (binOp PP .sub 3 bl b).bind fun dm=>
 (binOp PP .sub 3 c bl).bind fun dj=>
 (binOp PP .quo 3 u (DV.p (PV.int IntKind.i64 (8)))).bind fun dd=>
 (binOp PP .lss 3 dm dj).bind fun c9=>
 Qh c9
 (
 (binOp PP .geq 3 dm dd).bind fun di=>
 (Qd CC lo (DV.fn 123 []) [a,b,bl,x] r99_37.2).bind fun r121_38=>
 (binOp PP .add 3 bl I1).bind fun dq=>
 f123_L0 G lo a dq c x di dl r121_38.2
 )
 (
 (binOp PP .geq 3 dj dd).bind fun ee=>
 (binOp PP .add 3 bl I1).bind fun de=>
 (Qd CC lo (DV.fn 123 []) [a,de,c,x] r99_37.2).bind fun r132_39=>
 f123_L0 G lo a b bl x ee dl r132_39.2
 )
 )
 )
 )
 (
 G _ k true (some (g,r46_4.2)) r46_4.2 fun bi σ40=>
 (Qt k bi (DV.p (PV.bool false))).bind fun bj=>
 G _ bj true (some (E,σ40)) σ40 fun bg σ41=>
 Gp G bj true (binOp PP .eql 169 bg I1) σ41 fun bf σ42=>
 (Qt bj bf (DV.p (PV.bool false))).bind fun cm=>
 Qh cm
 (
 (Qd CC lo (DV.fn 141 []) [a,b,c] σ42).bind fun r72_43=>
 Qh r72_43.1
 (
 some ((DV.tuple []),r72_43.2)
 )
 (
 (binOp PP .gtr 3 b I0).bind fun M=>
 G _ M true (some (a,r72_43.2)) r72_43.2 fun ca σ44=>
 G _ M true (some (b,σ44)) σ44 fun bq σ45=>
 Gp G M true (binOp PP .sub 3 bq I1) σ45 fun bz σ46=>
 Gp G M true (indexAddr PP 22 ca bz) σ46 fun bv σ47=>
 Gp G M true (load PP 3 bv σ47) σ47 fun c7 σ48=>
 G _ M true (some (a,σ48)) σ48 fun cw σ49=>
 G _ M true (some (J,σ49)) σ49 fun n σ50=>
 Gp G M true (indexAddr PP 22 cw n) σ50 fun cr σ51=>
 Gp G M true (load PP 3 cr σ51) σ51 fun bk σ52=>
 Gp G M true (Qg CC (DV.fn 142 []) [c7,bk] σ52) σ52 fun bt σ53=>
 Gp G M true (unOp .not bt) σ53 fun bn σ54=>
 (Qt M bn (DV.p (PV.bool false))).bind fun bw=>
 Qh bw
 (
 (Qd CC lo (DV.fn 143 []) [a,b,c,J] σ54).bind fun r92_55=>
 f123_L0 G lo a r92_55.1 c x k g r92_55.2
 )
 (
 (Qd CC lo (DV.fn 144 []) [a,b,c,J] σ54).bind fun r99_56=>
 (Qj r99_56.1 0).bind fun bl=>
 (Qj r99_56.1 1).bind fun dl=>
 (binOp PP .sub 3 bl b).bind fun dm=>
 (binOp PP .sub 3 c bl).bind fun dj=>
 (binOp PP .quo 3 u (DV.p (PV.int IntKind.i64 (8)))).bind fun dd=>
 (binOp PP .lss 3 dm dj).bind fun c9=>
 Qh c9
 (
 (binOp PP .geq 3 dm dd).bind fun di=>
 (Qd CC lo (DV.fn 123 []) [a,b,bl,x] r99_56.2).bind fun r121_57=>
 (binOp PP .add 3 bl I1).bind fun dq=>
 f123_L0 G lo a dq c x di dl r121_57.2
 )
 (
 (binOp PP .geq 3 dj dd).bind fun ee=>
 (binOp PP .add 3 bl I1).bind fun de=>
 (Qd CC lo (DV.fn 123 []) [a,de,c,x] r99_56.2).bind fun r132_58=>
 f123_L0 G lo a b bl x ee dl r132_58.2
 )
 )
 )
 )
 (
 (binOp PP .gtr 3 b I0).bind fun M=>
 G _ M true (some (a,σ42)) σ42 fun ca σ59=>
 G _ M true (some (b,σ59)) σ59 fun bq σ60=>
 Gp G M true (binOp PP .sub 3 bq I1) σ60 fun bz σ61=>
 Gp G M true (indexAddr PP 22 ca bz) σ61 fun bv σ62=>
 Gp G M true (load PP 3 bv σ62) σ62 fun c7 σ63=>
 G _ M true (some (a,σ63)) σ63 fun cw σ64=>
 G _ M true (some (J,σ64)) σ64 fun n σ65=>
 Gp G M true (indexAddr PP 22 cw n) σ65 fun cr σ66=>
 Gp G M true (load PP 3 cr σ66) σ66 fun bk σ67=>
 Gp G M true (Qg CC (DV.fn 142 []) [c7,bk] σ67) σ67 fun bt σ68=>
 Gp G M true (unOp .not bt) σ68 fun bn σ69=>
 (Qt M bn (DV.p (PV.bool false))).bind fun bw=>
 Qh bw
 (
 (Qd CC lo (DV.fn 143 []) [a,b,c,J] σ69).bind fun r92_70=>
 f123_L0 G lo a r92_70.1 c x k g r92_70.2
 )
 (
 (Qd CC lo (DV.fn 144 []) [a,b,c,J] σ69).bind fun r99_71=>
 (Qj r99_71.1 0).bind fun bl=>
 (Qj r99_71.1 1).bind fun dl=>
 (binOp PP .sub 3 bl b).bind fun dm=>
 (binOp PP .sub 3 c bl).bind fun dj=>
 (binOp PP .quo 3 u (DV.p (PV.int IntKind.i64 (8)))).bind fun dd=>
 (binOp PP .lss 3 dm dj).bind fun c9=>
 Qh c9
 (
 (binOp PP .geq 3 dm dd).bind fun di=>
 (Qd CC lo (DV.fn 123 []) [a,b,bl,x] r99_71.2).bind fun r121_72=>
 (binOp PP .add 3 bl I1).bind fun dq=>
 f123_L0 G lo a dq c x di dl r121_72.2
 )
 (
 (binOp PP .geq 3 dj dd).bind fun ee=>
 (binOp PP .add 3 bl I1).bind fun de=>
 (Qd CC lo (DV.fn 123 []) [a,de,c,x] r99_71.2).bind fun r132_73=>
 f123_L0 G lo a b bl x ee dl r132_73.2
 )
 )
 )
 )
 )
 (
 (Qd CC lo (DV.fn 139 []) [a,b,c] σ).bind fun r46_74=>
 (Qj r46_74.1 0).bind fun J=>
 (Qj r46_74.1 1).bind fun E=>
 (binOp PP .eql 169 E (DV.p (PV.int IntKind.i64 (2)))).bind fun ar=>
 Qh ar
 (
 (Qd CC lo (DV.fn 140 []) [a,b,c] r46_74.2).bind fun r54_75=>
 (binOp PP .sub 3 c I1).bind fun be=>
 (binOp PP .sub 3 J b).bind fun bc=>
 (binOp PP .sub 3 be bc).bind fun bb=>
 G _ k true (some (g,r54_75.2)) r54_75.2 fun bi σ76=>
 (Qt k bi (DV.p (PV.bool false))).bind fun bj=>
 G _ bj true (some (I1,σ76)) σ76 fun bg σ77=>
 Gp G bj true (binOp PP .eql 169 bg I1) σ77 fun bf σ78=>
 (Qt bj bf (DV.p (PV.bool false))).bind fun cm=>
 Qh cm
 (
 (Qd CC lo (DV.fn 141 []) [a,b,c] σ78).bind fun r72_79=>
 Qh r72_79.1
 (
 some ((DV.tuple []),r72_79.2)
 )
 (
 (binOp PP .gtr 3 b I0).bind fun M=>
 G _ M true (some (a,r72_79.2)) r72_79.2 fun ca σ80=>
 G _ M true (some (b,σ80)) σ80 fun bq σ81=>
 Gp G M true (binOp PP .sub 3 bq I1) σ81 fun bz σ82=>
 Gp G M true (indexAddr PP 22 ca bz) σ82 fun bv σ83=>
 Gp G M true (load PP 3 bv σ83) σ83 fun c7 σ84=>
 G _ M true (some (a,σ84)) σ84 fun cw σ85=>
 G _ M true (some (bb,σ85)) σ85 fun n σ86=>
 Gp G M true (indexAddr PP 22 cw n) σ86 fun cr σ87=>
 Gp G M true (load PP 3 cr σ87) σ87 fun bk σ88=>
 Gp G M true (Qg CC (DV.fn 142 []) [c7,bk] σ88) σ88 fun bt σ89=>
 Gp G M true (unOp .not bt) σ89 fun bn σ90=>
 (Qt M bn (DV.p (PV.bool false))).bind fun bw=>
 Qh bw
 (
 (Qd CC lo (DV.fn 143 []) [a,b,c,bb] σ90).bind fun r92_91=>
 f123_L0 G lo a r92_91.1 c d k g r92_91.2
 )
 (
 (Qd CC lo (DV.fn 144 []) [a,b,c,bb] σ90).bind fun r99_92=>
 (Qj r99_92.1 0).bind fun bl=>
 (Qj r99_92.1 1).bind fun dl=>
 (binOp PP .sub 3 bl b).bind fun dm=>
 (binOp PP .sub 3 c bl).bind fun dj=>
 (binOp PP .quo 3 u (DV.p (PV.int IntKind.i64 (8)))).bind fun dd=>
 (binOp PP .lss 3 dm dj).bind fun c9=>
 Qh c9
 (
 (binOp PP .geq 3 dm dd).bind fun di=>
 (Qd CC lo (DV.fn 123 []) [a,b,bl,d] r99_92.2).bind fun r121_93=>
 (binOp PP .add 3 bl I1).bind fun dq=>
 f123_L0 G lo a dq c d di dl r121_93.2
 )
 (
 (binOp PP .geq 3 dj dd).bind fun ee=>
 (binOp PP .add 3 bl I1).bind fun de=>
 (Qd CC lo (DV.fn 123 []) [a,de,c,d] r99_92.2).bind fun r132_94=>
 f123_L0 G lo a b bl d ee dl r132_94.2
 )
 )
 )
 )
 (
 (binOp PP .gtr 3 b I0).bind fun M=>
 G _ M true (some (a,σ78)) σ78 fun ca σ95=>
 G _ M true (some (b,σ95)) σ95 fun bq σ96=>
 Gp G M true (binOp PP .sub 3 bq I1) σ96 fun bz σ97=>
 Gp G M true (indexAddr PP 22 ca bz) σ97 fun bv σ98=>
 Gp G M true (load PP 3 bv σ98) σ98 fun c7 σ99=>
 G _ M true (some (a,σ99)) σ99 fun cw σ100=>
 G _ M true (some (bb,σ100)) σ100 fun n σ101=>
 Gp G M true (indexAddr PP 22 cw n) σ101 fun cr σ102=>
 Gp G M true (load PP 3 cr σ102) σ102 fun bk σ103=>
 Gp G M true (Qg CC (DV.fn 142 []) [c7,bk] σ103) σ103 fun bt σ104=>
 Gp G M true (unOp .not bt) σ104 fun bn σ105=>
 (Qt M bn (DV.p (PV.bool false))).bind fun bw=>
 Qh bw
 (
 (Qd CC lo (DV.fn 143 []) [a,b,c,bb] σ105).bind fun r92_106=>
 f123_L0 G lo a r92_106.1 c d k g r92_106.2
 )
 (
 (Qd CC lo (DV.fn 144 []) [a,b,c,bb] σ105).bind fun r99_107=>
 (Qj r99_107.1 0).bind fun bl=>
 (Qj r99_107.1 1).bind fun dl=>
 (binOp PP .sub 3 bl b).bind fun dm=>
 (binOp PP .sub 3 c bl).bind fun dj=>
 (binOp PP .quo 3 u (DV.p (PV.int IntKind.i64 (8)))).bind fun dd=>
 (binOp PP .lss 3 dm dj).bind fun c9=>
 Qh c9
 (
 (binOp PP .geq 3 dm dd).bind fun di=>
 (Qd CC lo (DV.fn 123 []) [a,b,bl,d] r99_107.2).bind fun r121_108=>
 (binOp PP .add 3 bl I1).bind fun dq=>
 f123_L0 G lo a dq c d di dl r121_108.2
 )
 (
 (binOp PP .geq 3 dj dd).bind fun ee=>
 (binOp PP .add 3 bl I1).bind fun de=>
 (Qd CC lo (DV.fn 123 []) [a,de,c,d] r99_107.2).bind fun r132_109=>
 f123_L0 G lo a b bl d ee dl r132_109.2
 )
 )
 )
 )
 (
 G _ k true (some (g,r46_74.2)) r46_74.2 fun bi σ110=>
 (Qt k bi (DV.p (PV.bool false))).bind fun bj=>
 G _ bj true (some (E,σ110)) σ110 fun bg σ111=>
 Gp G bj true (binOp PP .eql 169 bg I1) σ111 fun bf σ112=>
 (Qt bj bf (DV.p (PV.bool false))).bind fun cm=>
 Qh cm
 (
 (Qd CC lo (DV.fn 141 []) [a,b,c] σ112).bind fun r72_113=>
 Qh r72_113.1
 (
 some ((DV.tuple []),r72_113.2)
 )
 (
 (binOp PP .gtr 3 b I0).bind fun M=>
 G _ M true (some (a,r72_113.2)) r72_113.2 fun ca σ114=>
 G _ M true (some (b,σ114)) σ114 fun bq σ115=>
 Gp G M true (binOp PP .sub 3 bq I1) σ115 fun bz σ116=>
 Gp G M true (indexAddr PP 22 ca bz) σ116 fun bv σ117=>
 Gp G M true (load PP 3 bv σ117) σ117 fun c7 σ118=>
 G _ M true (some (a,σ118)) σ118 fun cw σ119=>
 G _ M true (some (J,σ119)) σ119 fun n σ120=>
 Gp G M true (indexAddr PP 22 cw n) σ120 fun cr σ121=>
 Gp G M true (load PP 3 cr σ121) σ121 fun bk σ122=>
 Gp G M true (Qg CC (DV.fn 142 []) [c7,bk] σ122) σ122 fun bt σ123=>
 Gp G M true (unOp .not bt) σ123 fun bn σ124=>
 (Qt M bn (DV.p (PV.bool false))).bind fun bw=>
 Qh bw
 (
 (Qd CC lo (DV.fn 143 []) [a,b,c,J] σ124).bind fun r92_125=>
 f123_L0 G lo a r92_125.1 c d k g r92_125.2
 )
 (
 (Qd CC lo (DV.fn 144 []) [a,b,c,J] σ124).bind fun r99_126=>
 (Qj r99_126.1 0).bind fun bl=>
 (Qj r99_126.1 1).bind fun dl=>
 (binOp PP .sub 3 bl b).bind fun dm=>
 (binOp PP .sub 3 c bl).bind fun dj=>
 (binOp PP .quo 3 u (DV.p (PV.int IntKind.i64 (8)))).bind fun dd=>
 (binOp PP .lss 3 dm dj).bind fun c9=>
 Qh c9
 (
 (binOp PP .geq 3 dm dd).bind fun di=>
 (Qd CC lo (DV.fn 123 []) [a,b,bl,d] r99_126.2).bind fun r121_127=>
 (binOp PP .add 3 bl I1).bind fun dq=>
 f123_L0 G lo a dq c d di dl r121_127.2
 )
 (
 (binOp PP .geq 3 dj dd).bind fun ee=>
 (binOp PP .add 3 bl I1).bind fun de=>
 (Qd CC lo (DV.fn 123 []) [a,de,c,d] r99_126.2).bind fun r132_128=>
 f123_L0 G lo a b bl d ee dl r132_128.2
 )
 )
 )
 )
 (
 (binOp PP .gtr 3 b I0).bind fun M=>
 G _ M true (some (a,σ112)) σ112 fun ca σ129=>
 G _ M true (some (b,σ129)) σ129 fun bq σ130=>
 Gp G M true (binOp PP .sub 3 bq I1) σ130 fun bz σ131=>
 Gp G M true (indexAddr PP 22 ca bz) σ131 fun bv σ132=>
 Gp G M true (load PP 3 bv σ132) σ132 fun c7 σ133=>
 G _ M true (some (a,σ133)) σ133 fun cw σ134=>
 G _ M true (some (J,σ134)) σ134 fun n σ135=>
 Gp G M true (indexAddr PP 22 cw n) σ135 fun cr σ136=>
 Gp G M true (load PP 3 cr σ136) σ136 fun bk σ137=>
 Gp G M true (Qg CC (DV.fn 142 []) [c7,bk] σ137) σ137 fun bt σ138=>
 Gp G M true (unOp .not bt) σ138 fun bn σ139=>
 (Qt M bn (DV.p (PV.bool false))).bind fun bw=>
 Qh bw
 (
 (Qd CC lo (DV.fn 143 []) [a,b,c,J] σ139).bind fun r92_140=>
 f123_L0 G lo a r92_140.1 c d k g r92_140.2
 )
 (
 (Qd CC lo (DV.fn 144 []) [a,b,c,J] σ139).bind fun r99_141=>
 (Qj r99_141.1 0).bind fun bl=>
 (Qj r99_141.1 1).bind fun dl=>
 (binOp PP .sub 3 bl b).bind fun dm=>
 (binOp PP .sub 3 c bl).bind fun dj=>
 (binOp PP .quo 3 u (DV.p (PV.int IntKind.i64 (8)))).bind fun dd=>
 (binOp PP .lss 3 dm dj).bind fun c9=>
 Qh c9
 (
 (binOp PP .geq 3 dm dd).bind fun di=>
 (Qd CC lo (DV.fn 123 []) [a,b,bl,d] r99_141.2).bind fun r121_142=>
 (binOp PP .add 3 bl I1).bind fun dq=>
 f123_L0 G lo a dq c d di dl r121_142.2
 )
 (
 (binOp PP .geq 3 dj dd).bind fun ee=>
 (binOp PP .add 3 bl I1).bind fun de=>
 (Qd CC lo (DV.fn 123 []) [a,de,c,d] r99_141.2).bind fun r132_143=>
 f123_L0 G lo a b bl d ee dl r132_143.2
 )
 )
 )
 )
 )
 )
 ):=(Ql G hG).trans (by kernel_rfl)
theorem f123_L0_eq (G:Qe) (hG:Qo G) (lo:Nat) (a b c d k g:DV) (σ:Qa):f123_L0 G lo a b c d k g σ =
 (binOp PP .sub 3 c b).bind fun u=>
 (binOp PP .leq 3 u (DV.p (PV.int IntKind.i64 (12)))).bind fun z=>
 Qh z
 (
 (Qd CC lo (DV.fn 136 []) [a,b,c] σ).bind fun r27_1=>
 some ((DV.tuple []),r27_1.2)
 )
 (
 (binOp PP .eql 3 d I0).bind fun S=>
 Qh S
 (
 (Qd CC lo (DV.fn 137 []) [a,b,c] σ).bind fun r33_2=>
 some ((DV.tuple []),r33_2.2)
 )
 (
 (unOp .not k).bind fun ai=>
 Qh ai
 (
 (Qd CC lo (DV.fn 138 []) [a,b,c] σ).bind fun r39_3=>
 (binOp PP .sub 3 d I1).bind fun x=>
 f123_J0 G lo a b c x k g u c b u u z d S k ai a b c r39_3.1 d x r39_3.2
 )
 (
 f123_J0 G lo a b c d k g u c b u u z d S k ai Z Z Z Z Z Z σ
 )
 )
 ):=(f123_L0_eqN G hG lo a b c d k g σ).trans (by simp only [f123_J0_eq,f123_J1_eq,f123_J2_eq])
theorem F123_eq (G:Qe) (lo:Nat) (a b c d:DV) (σ:Qa):F123 G lo a b c d σ =
 f123_L0 G lo a b c d (DV.p (PV.bool true)) (DV.p (PV.bool true)) σ:=by kernel_rfl
theorem F123_call {lo:Nat} {a b c d:DV} (h:F123 Qb lo a b c d σ=some r):CC lo 123 [a,b,c,d] σ=some r:=
 callL_run Tryz.func123 (by decide +kernel) rfl (by decide +kernel) h
def c136_0:Code:=Qs Tryz.f136
def a136_0:Ann:=(pol 136).ann
def a136_2:Ann:=right a136_0
def a136_3:Ann:=left a136_2
def c136_4:Code:=fstC (fstC (sndC c136_0))
def a136_11:Ann:=left (right (left a136_3))
def a136_14:Ann:=right (left a136_11)
def a136_15:Ann:=left a136_14
def c136_16:Code:=fstC (fstC (sndC (fstC (fstC (sndC c136_4)))))
def c136_26:Code:=sndC (sndC c136_4)
def a136_26:Ann:=right (right (left a136_3))
def f136_L0 (a b c O:DV) (σ:Qa):RS:=
 Qm G PP (pol 136) CC lo (.loop c136_4) a136_3 (a::b::c::Z::Z::Z::O::zn 42 []) σ
 (Qf 0 a136_2 (finR PP Tryz.f136.results.toList))
def f136_L1 (a b c O H:DV) (σ:Qa):RS:=
 Qm G PP (pol 136) CC lo (.loop c136_16) a136_15 (a::b::c::Z::Z::Z::O::H::zn 41 []) σ
 (Qf 2 a136_14 (Qf 1 a136_11 (seqC G PP (pol 136) CC lo c136_26 a136_26 (QN G PP (pol 136) CC lo c136_4 a136_3 (Qf 0 a136_2 (finR PP Tryz.f136.results.toList))))))
def F136 (a b c:DV) (σ:Qa):RS:=
 Qm G PP (pol 136) CC lo c136_0 a136_0 (a::b::c::zn 46 []) σ (finR PP Tryz.f136.results.toList)
theorem f136_L0_eq (G:Qe) (hG:Qo G) (lo:Nat) (a b c O:DV) (σ:Qa):f136_L0 G lo a b c O σ =
 (binOp PP .lss 3 O c).bind fun l=>
 Qh l
 (
 f136_L1 G lo a b c O O σ
 )
 (
 some ((DV.tuple []),σ)
 ):=(Ql G hG).trans (by kernel_rfl)
theorem f136_L1_eq (G:Qe) (hG:Qo G) (lo:Nat) (a b c O H:DV) (σ:Qa):f136_L1 G lo a b c O H σ =
 (binOp PP .gtr 3 H b).bind fun af=>
 G _ af true (some (a,σ)) σ fun Q σ1=>
 G _ af true (some (H,σ1)) σ1 fun u σ2=>
 Gp G af true (indexAddr PP 22 Q u) σ2 fun o σ3=>
 Gp G af true (load PP 3 o σ3) σ3 fun z σ4=>
 G _ af true (some (a,σ4)) σ4 fun K σ5=>
 G _ af true (some (H,σ5)) σ5 fun A σ6=>
 Gp G af true (binOp PP .sub 3 A I1) σ6 fun ac σ7=>
 Gp G af true (indexAddr PP 22 K ac) σ7 fun U σ8=>
 Gp G af true (load PP 3 U σ8) σ8 fun au σ9=>
 Gp G af true (Qg CC (DV.fn 142 []) [z,au] σ9) σ9 fun S σ10=>
 (Qt af S (DV.p (PV.bool false))).bind fun aw=>
 Qh aw
 (
 (binOp PP .sub 3 H I1).bind fun aq=>
 (binOp PP .sub 3 H I1).bind fun C=>
 (indexAddr PP 22 a C).bind fun x=>
 (load PP 3 x σ10).bind fun y=>
 (indexAddr PP 22 a H).bind fun N=>
 (load PP 3 N σ10).bind fun t=>
 (indexAddr PP 22 a H).bind fun J=>
 (store PP lo 3 J y σ10).bind fun σ11=>
 (indexAddr PP 22 a aq).bind fun E=>
 (store PP lo 3 E t σ11).bind fun σ12=>
 (binOp PP .sub 3 H I1).bind fun I=>
 f136_L1 G lo a b c O I σ12
 )
 (
 (binOp PP .add 3 O I1).bind fun w=>
 f136_L0 G lo a b c w σ10
 ):=(Ql G hG).trans (by kernel_rfl)
theorem F136_eq (G:Qe) (lo:Nat) (a b c:DV) (σ:Qa):F136 G lo a b c σ =
 (binOp PP .add 3 b I1).bind fun g=>
 f136_L0 G lo a b c g σ:=by kernel_rfl
theorem F136_call {lo:Nat} {a b c:DV} (h:F136 Qb lo a b c σ=some r):CC lo 136 [a,b,c] σ=some r:=
 callL_run Tryz.func136 (by decide +kernel) rfl (by decide +kernel) h
def c142_0:Code:=Qs Tryz.f142
def a142_0:Ann:=(pol 142).ann
def F142 (a b:DV) (σ:Qa):RS:=
 Qm G PP (pol 142) CC lo c142_0 a142_0 (a::b::zn 15 []) σ (finR PP Tryz.f142.results.toList)
theorem F142_eq (G:Qe) (lo:Nat) (a b:DV) (σ:Qa):F142 G lo a b σ =
 (Qg CC (DV.fn 120 []) [a] σ).bind fun O=>
 G _ O true (some (b,σ)) σ fun k σ1=>
 Gp G O true (Qg CC (DV.fn 120 []) [k] σ1) σ1 fun g σ2=>
 Gp G O true (unOp .not g) σ2 fun i σ3=>
 (Qt O i (DV.p (PV.bool false))).bind fun j=>
 G _ j false (some (a,σ3)) σ3 fun q σ4=>
 G _ j false (some (b,σ4)) σ4 fun w σ5=>
 Gp G j false (binOp PP .lss 3 q w) σ5 fun F σ6=>
 (Qt j (DV.p (PV.bool true)) F).bind fun ah=>
 some (ah,σ6):=by kernel_rfl
theorem F142_call {lo:Nat} {a b:DV} (h:F142 Qb lo a b σ=some r):CC lo 142 [a,b] σ=some r:=
 callL_run Tryz.func142 (by decide +kernel) rfl (by decide +kernel) h
def c114_0:Code:=Qs Tryz.f114
def a114_0:Ann:=(pol 114).ann
def a114_13:Ann:=right (left (right (right a114_0)))
def a114_14:Ann:=left a114_13
def c114_15:Code:=fstC (fstC (sndC (fstC (sndC (sndC c114_0)))))
def a114_22:Ann:=left (right (left a114_14))
def a114_31:Ann:=right (left (right (left (right (left a114_22)))))
def a114_32:Ann:=left a114_31
def c114_33:Code:=fstC (fstC (sndC (fstC (sndC (fstC (sndC (fstC (fstC (sndC c114_15)))))))))
def c114_49:Code:=sndC (sndC (fstC (sndC (fstC (fstC (sndC c114_15))))))
def a114_49:Ann:=right (right (left (right (left a114_22))))
def c114_55:Code:=sndC (sndC c114_15)
def a114_55:Ann:=right (right (left a114_14))
def c114_56:Code:=sndC (sndC (sndC c114_0))
def a114_56:Ann:=right (right (right a114_0))
def f114_L0 (a d:DV) (σ:Qa):RS:=
 Qm G PP (pol 114) CC lo (.loop c114_15) a114_14 (a::Z::Z::d::zn 57 []) σ
 (Qf 0 a114_13 (seqC G PP (pol 114) CC lo c114_56 a114_56 (finR PP Tryz.f114.results.toList)))
def f114_L1 (a d f m:DV) (σ:Qa):RS:=
 Qm G PP (pol 114) CC lo (.loop c114_33) a114_32 (a::Z::Z::d::f::m::zn 55 []) σ
 (Qf 2 a114_31 (seqC G PP (pol 114) CC lo c114_49 a114_49 (Qf 1 a114_22 (seqC G PP (pol 114) CC lo c114_55 a114_55 (QN G PP (pol 114) CC lo c114_15 a114_14 (Qf 0 a114_13 (seqC G PP (pol 114) CC lo c114_56 a114_56 (finR PP Tryz.f114.results.toList))))))))
def F114 (a:DV) (σ:Qa):RS:=
 Qm G PP (pol 114) CC lo c114_0 a114_0 (a::zn 60 []) σ (finR PP Tryz.f114.results.toList)
theorem f114_L0_eq (G:Qe) (hG:Qo G) (lo:Nat) (a d:DV) (σ:Qa):f114_L0 G lo a d σ =
 (len PP 22 a σ).bind fun l=>
 (binOp PP .lss 3 d l).bind fun q=>
 Qh q
 (
 (indexAddr PP 22 a d).bind fun af=>
 (load PP 3 af σ).bind fun b8=>
 (binOp PP .sub 3 d I1).bind fun o=>
 (indexAddr PP 22 a o).bind fun z=>
 (load PP 3 z σ).bind fun K=>
 (binOp PP .eql 3 b8 K).bind fun A=>
 Qh A
 (
 (Zy PP 22 a (some d) none none).bind fun au=>
 f114_L1 G lo a d au I1 σ
 )
 (
 (binOp PP .add 3 d I1).bind fun F=>
 f114_L0 G lo a F σ
 )
 )
 (
 some (a,σ)
 ):=(Ql G hG).trans (by kernel_rfl)
theorem F114_eq (G:Qe) (lo:Nat) (a:DV) (σ:Qa):F114 G lo a σ =
 (len PP 22 a σ).bind fun H=>
 (binOp PP .lss 3 H (DV.p (PV.int IntKind.i64 (2)))).bind fun k=>
 Qh k
 (
 some (a,σ)
 )
 (
 f114_L0 G lo a I1 σ
 ):=by kernel_rfl
theorem F114_call {lo:Nat} {a:DV} (h:F114 Qb lo a σ=some r):CC lo 114 [a] σ=some r:=
 callL_run Tryz.func114 (by decide +kernel) rfl (by decide +kernel) h
end
end Go.D
end
/- Chapter 22: graph, third part: the numbers of the first states; ascending numbers are sorted. -/
section
set_option linter.unusedVariables false
set_option linter.unusedSimpArgs false
namespace Go.D.StS
open Go.D.Srt
def RowG (σ:Qa) (B sz n:Nat) (cs:List PV) (x:DV):Prop:=cs.length=n*sz/\((n=0/\x=.p .nilsl)\/(n≠0/\∃ r,x=.rsl r sz 0 n/\σ[r]?=some (.mix (cs.map DV.p))/\B<=r))
def rowR:DV->Option Nat
 | .rsl r _ _ _=>some r
 | _=>none
def KeepBut (x:DV) (σ σ':Qa):Prop:=∀ (j:Nat) (row:Row),(∀ r,rowR x=some r->j≠r)->σ[j]?=some row->σ'[j]?=some row
theorem RowG.zero {σ:Qa} {B sz:Nat}:RowG σ B sz 0 [] (.p .nilsl):=⟨by simp,.inl ⟨rfl,rfl⟩⟩
theorem RowG.push {σ:Qa} {t e lo B sz b n:Nat} {z:List DV} {cs vs:List PV} {x:DV} (hs:ZQ PP t=true) (hu:PP.underlying t=some (.slice e)) (h1:size? PP e=some sz) (h2:bytes? PP e=some b) (h3:Qx PP e=some z)
  (h4:z.length=sz) (hz:0<sz) (hb:0<b) (hb2:b<=1000) (hv:vs.length=sz) (ho:RowG σ B sz n cs x) (hn:n<=10000000) (hB:B<=σ.length) (hlo:lo<=B) :
  ∃ σ',append PP lo true t t x (.p (.sl true 1 vs)) σ=some (.rsl σ.length sz 0 (n+1),σ')/\RowG σ' B sz (n+1) (cs++vs) (.rsl σ.length sz 0 (n+1))/\KeepBut x σ σ'/\σ'.length=σ.length+1:=by
 have hsrc:ZE σ sz (.p (.sl true 1 vs))=some (1,vs.map DV.p):=by simp [ZE,hv]
 have hz0:¬ (z.length≠sz\/sz=0):=by omega
 obtain ⟨hc,ho⟩:=ho
 rcases ho with ⟨rfl,rfl⟩ | ⟨hn0,r,rfl,hr,hl⟩
 ·have:cs=[]:=List.length_eq_zero_iff.1 (by simpa using hc)
  subst this
  refine ⟨σ++[.mix (vs.map DV.p)],?_,⟨by simp [hv],.inr ⟨by simp,σ.length,rfl,?_,hB⟩⟩,fun j row _ g=>QM g,by simp⟩
  ·have:b<=140737488355328:=by omega
   simp only [append,hs,hu,h1,h2,h3,hz0,hsrc,Um]
   simp [this,hb,h4,hz,Nat.ne_of_gt hz]
  ·rw [List.nil_append]; exact QB
 ·have hrl:=QT hr
  refine ⟨σ.set r .dead++[.mix ((cs++vs).map DV.p)],?_,⟨by simp [hc,hv,Nat.add_mul],.inr ⟨by simp,σ.length,rfl,?_,hB⟩⟩,fun j row hj g=>QM (Qu g (hj r rfl)),by simp⟩
  ·have e1:(n+1)*b<=140737488355328:=Nat.le_trans (Nat.mul_le_mul (show n+1<=10000001 by omega) hb2) (by decide)
   have e2:n+1<=140737488355328:=by omega
   have e3:lo<=r:=by omega
   have e4:¬ (0+(n+1)*sz<=(cs.map DV.p).length):=by rw [List.length_map,hc,Nat.add_mul]; omega
   have e5:0+n*sz=(cs.map DV.p).length:=by rw [List.length_map,hc]; omega
   have e6:(vs.map DV.p).all DV.one=true:=by simp [DV.one]
   have e7:(List.map DV.p cs).take (n*sz)=List.map DV.p cs:=List.take_of_length_le (by rw [List.length_map,hc]; exact Nat.le_refl _)
   simp only [append,hs,hu,h1,h2,h3,hz0,hsrc,appRow]
   have e8:¬ (n*sz+sz<=n*sz):=by omega
   have e9:n*b+b<=140737488355328:=by rw [Nat.add_mul] at e1; omega
   simp [e9,e8,e2,e3,hr,e6,hc,hb,h4,Nat.add_mul,hv,Nat.ne_of_gt hz]
  ·have:(σ.set r .dead).length=σ.length:=by simp
   rw [<-this]; exact QB
theorem RowG.snoc {σ:Qa} {B sz n:Nat} {cs:List PV} {x:DV} (h:RowG σ B sz n cs x) (row:Row):RowG (σ++[row]) B sz n cs x:=by
 refine ⟨h.1,?_⟩
 rcases h.2 with h1 | ⟨h0,r,e1,e2,e3⟩
 ·exact .inl h1
 ·exact .inr ⟨h0,r,e1,QM e2,e3⟩
theorem RowG.setNe {σ:Qa} {B sz n q:Nat} {cs:List PV} {x:DV} {row:Row} (h:RowG σ B sz n cs x) (hq:q<B):RowG (σ.set q row) B sz n cs x:=by
 refine ⟨h.1,?_⟩
 rcases h.2 with h1 | ⟨h0,r,e1,e2,e3⟩
 ·exact .inl h1
 ·exact .inr ⟨h0,r,e1,Qu e2 (by omega),e3⟩
theorem RowG.keep {σ σ':Qa} {B sz n:Nat} {cs:List PV} {x z:DV} (h:RowG σ B sz n cs x) (hk:KeepBut z σ σ') (ha:∀ r,rowR z=some r->rowR x≠some r):RowG σ' B sz n cs x:=by
 refine ⟨h.1,?_⟩
 rcases h.2 with h1 | ⟨h0,r,e1,e2,e3⟩
 ·exact .inl h1
 ·exact .inr ⟨h0,r,e1,hk r _ (fun q hq e=>ha q hq (by rw [e1,e]; rfl)) e2,e3⟩
theorem RowL.keep {σ σ':Qa} {B:Nat} {A:List E} {x z:DV} (h:RowL σ B A x) (hk:KeepBut z σ σ') (ha:∀ r,rowR z=some r->rowR x≠some r):RowL σ' B A x:=by
 rcases h with h1 | ⟨r,e1,e2,e3,e4⟩
 ·exact .inl h1
 ·exact .inr ⟨r,e1,hk r _ (fun q hq e=>ha q hq (by rw [e1,e]; rfl)) e2,e3,e4⟩
theorem RowG.row_ge {σ:Qa} {B sz n:Nat} {cs:List PV} {x:DV} (h:RowG σ B sz n cs x) {r:Nat} (hr:rowR x=some r):B<=r/\r<σ.length/\σ[r]?=some (.mix (cs.map DV.p)):=by
 rcases h.2 with ⟨_,rfl⟩ | ⟨h0,r',rfl,e2,e3⟩
 ·simp [rowR] at hr
 ·have:r'=r:=by simpa [rowR] using hr
  subst this
  exact ⟨e3,QT e2,e2⟩
theorem Out.keep {σ σ':Qa} {lo B sz n sz' n':Nat} {cs cs':List PV} {x z:DV} (h:Out σ lo sz n cs x) (hz:RowG σ B sz' n' cs' z) (hk:KeepBut z σ σ'):Out σ' lo sz n cs x:=by
 refine ⟨h.1,?_⟩
 rcases h.2 with h1 | ⟨h0,r,ver,e1,e2,e3⟩
 ·exact .inl h1
 ·refine .inr ⟨h0,r,ver,e1,hk r _ (fun q hq e=>?_) e2,e3⟩
  subst e
  have:=(hz.row_ge hq).2.2
  rw [e2] at this
  cases this
theorem GY.keep {σ0:Qa} {ext o:List DV} {l:List (E×Int)} {A:List E} {y z:DV} {σ σ':Qa} {sz n:Nat} {cs:List PV} (h:GY σ0 ext l A o y σ) (hz:RowG σ (σ0.length+5) sz n cs z) (hk:KeepBut z σ σ') (ha:∀ r,rowR z=some r->rowR y≠some r):GY σ0 ext l A o y σ':=by
 have hl:=h.g.len
 obtain ⟨c,z1,z2⟩:=h.g.z2
 have km:∀ (j:Nat) (row:Row),j<σ0.length+5->σ[j]?=some row->σ'[j]?=some row:=fun j row hj e=>hk j row (fun r hr=>by have:=(hz.row_ge hr).1; omega) e
 have hr:=h.ry.keep hk ha
 refine ⟨⟨fun j hj=>?_,km _ _ (by omega) h.g.ex,⟨c,km _ _ (by omega) z1,z2⟩,km _ _ (by omega) h.g.mp,km _ _ (by omega) h.g.ot,h.g.ol,y,km _ _ (by omega) h.ay,hr⟩,km _ _ (by omega) h.ay,hr⟩
 have hj2:=h.g.low j hj
 cases hx:σ0[j]? with
 | none=>have:=List.getElem?_eq_none_iff.1 hx; omega
 | some row=>
  rw [hx] at hj2
  exact km j row (by omega) hj2
theorem S142 (a b:Int) (σ:Qa):Qv CC 142 [.p (.int .i64 a),.p (.int .i64 b)] σ=some (.p (.bool (decide (a<b)))):=by
 refine Qk rfl rfl (F142_call (r:=(.p (.bool (decide (a<b))),[])) ?_) rfl
 rw [F142_eq]
 have h:=S120 a []
 simp only [pI] at h
 simp only [Qi,List.append_nil,h,gG,Qn]
theorem idx22r {r n i:Nat} (h:i<n):indexAddr PP 22 (.rsl r 1 0 n) (.p (.int .i64 (i:Nat)))=some (.ptr r i):=by
 have h2:(0:Int)<=(i:Int)/\(i:Int)<(n:Nat):=by omega
 simp [indexAddr,u22,s3,h2]
theorem ldI {σ:Qa} {r i:Nat} {ds:List Int} (h:σ[r]?=some (.mix ((Qr ds).map DV.p))) (hi:i<ds.length):ZX (.ptr r i) σ=some (.p (.int .i64 (ds.getD i 0))):=by
 refine Qc h ?_
 rw [List.getElem?_map,Qr,List.getElem?_map,List.getD_eq_getElem?_getD,List.getElem?_eq_getElem hi]
 rfl
theorem len22r (r n:Nat) (σ:Qa):len PP 22 (.rsl r 1 0 n) σ=some (.p (.int .i64 (n:Nat))):=by simp [len,u22]
section
variable {σ : Qa} {r : Nat} {ds : List Int} (h : σ[r]? = some (.mix ((Qr ds).map DV.p))) (hasc : ∀ i, i + 1 < ds.length -> ds.getD i 0 <= ds.getD (i + 1) 0) (hn : ds.length <= 100000)
include h hasc hn
theorem asc_ins:∀ (d i:Nat),ds.length-i=d->1<=i->f136_L0 Qb 0 (.rsl r 1 0 ds.length) (N 0) (N ds.length) (N i) σ=some (.tuple [],σ)
 | 0,i,hd,hi=>by
  rw [f136_L0_eq Qb rfl]
  simp (disch:=omega) only [N,Qn,ltF,gG]
 | d+1,i,hd,hi=>by
  have ih:=asc_ins d (i+1) (by omega) (by omega)
  have hle:=hasc (i-1) (by omega)
  rw [show i-1+1=i by omega] at hle
  rw [<-ih,f136_L0_eq Qb rfl]
  simp (disch:=omega) only [N,Qn,ltT,gG]
  rw [f136_L1_eq Qb rfl]
  simp (disch:=omega) only [N,Zh,gtT,gG,idx22r,QF,ldI h,sub1,Qi,List.append_nil,S142,ltF,add1]
end
theorem S113 {σ:Qa} {B:Nat} {ds:List Int} {x:DV} (hx:RowG σ B 1 ds.length (Qr ds) x) (hasc:∀ i,i+1<ds.length->ds.getD i 0<=ds.getD (i+1) 0) (hn:ds.length<=12):CC 0 113 [x] σ=some (.tuple [],σ):=by
 obtain ⟨b,e1,h2,h3⟩:=Jj (n:=ds.length) (by omega)
 have hl:len PP 22 x σ=some (.p (.int .i64 ((ds.length:Nat):Int))):=by
  rcases hx.2 with ⟨e,rfl⟩ | ⟨h0,r,rfl,_,_⟩
  ·rw [e,len22_nil]; rfl
  ·exact len22r _ _ _
 have a1:binOp PP .add 3 (.p (.int .i64 0)) (.p (.int .i64 1))=some (.p (.int .i64 ((1:Nat):Int))):=add1 (a:=0) (by omega)
 have c0:CC 0 136 [x,.p (.int .i64 0),.p (.int .i64 ((ds.length:Nat):Int))] σ=some (.tuple [],σ):=by
  refine F136_call ?_
  rw [F136_eq]
  simp only [a1,gG]
  rcases hx.2 with ⟨e,rfl⟩ | ⟨h0,r,rfl,e2,_⟩
  ·rw [e,f136_L0_eq Qb rfl]
   simp (disch:=omega) only [Qn,ltF,gG]
  ·exact asc_ins e2 hasc (by omega) _ 1 rfl (Nat.le_refl 1)
 have c1:CC 0 123 [x,.p (.int .i64 0),.p (.int .i64 ((ds.length:Nat):Int)),I b] σ=some (.tuple [],σ):=by
  refine F123_call ?_
  have a2:binOp PP .sub 3 (.p (.int .i64 ((ds.length:Nat):Int))) (.p (.int .i64 0))=some (.p (.int .i64 ((ds.length-0:Nat):Int))):=subN (a:=ds.length) (b:=0) (Nat.zero_le _) (by omega)
  rw [F123_eq,f123_L0_eq Qb rfl]
  simp (disch:=omega) only [a2,QX,leT,gG,Qq,List.append_nil,c0]
 refine F113_call ?_
 simp only [I,U] at c1 e1
 rw [F113_eq]
 simp (disch:=omega) only [hl,gG,Ji,Qi,Qq,List.append_nil,e1,c1]
section
variable {σ : Qa} {r : Nat} {ds : List Int} (h : σ[r]? = some (.mix ((Qr ds).map DV.p))) (hasc : ∀ i, i + 1 < ds.length -> ds.getD i 0 < ds.getD (i + 1) 0) (hn : ds.length <= 100000)
include h hasc hn
theorem asc_cmp:∀ (d i:Nat),ds.length-i=d->1<=i->f114_L0 Qb 0 (.rsl r 1 0 ds.length) (N i) σ=some (.rsl r 1 0 ds.length,σ)
 | 0,i,hd,hi=>by
  rw [f114_L0_eq Qb rfl]
  simp (disch:=omega) only [N,len22r,Qn,ltF,gG]
 | d+1,i,hd,hi=>by
  have ih:=asc_cmp d (i+1) (by omega) (by omega)
  have hle:=hasc (i-1) (by omega)
  rw [show i-1+1=i by omega] at hle
  rw [<-ih,f114_L0_eq Qb rfl]
  simp (disch:=omega) only [N,len22r,Qn,ltT,gG,idx22r,QF,ldI h,sub1,QV,eqF,add1]
end
theorem S114 {σ:Qa} {B:Nat} {ds:List Int} {x:DV} (hx:RowG σ B 1 ds.length (Qr ds) x) (hasc:∀ i,i+1<ds.length->ds.getD i 0<ds.getD (i+1) 0) (hn:ds.length<=100000):CC 0 114 [x] σ=some (x,σ):=by
 refine F114_call ?_
 rw [F114_eq]
 rcases hx.2 with ⟨e,rfl⟩ | ⟨h0,r,rfl,e2,_⟩
 ·simp (disch:=omega) only [len22_nil,Qn,ltT,gG]
 ·by_cases h1:ds.length<2
  ·simp (disch:=omega) only [len22r,Qn,ltT,gG]
  ·simp (disch:=omega) only [len22r,Qn,ltF,gG]
   exact asc_cmp e2 hasc hn _ 1 rfl (Nat.le_refl 1)
end Go.D.StS
end
/- Chapter 22: graph, fourth part: the numbers of the first states. -/
section
set_option linter.unusedVariables false
set_option linter.unusedSimpArgs false
namespace Go.D.StS
open Go.D.Srt
def nums (B:List E) (l:List E):List Int:=l.map fun e=>((B.idxOf e:Nat):Int)
theorem ZK {B:List E} {e:E} (h:e∈B):B.idxOf e<B.length/\ge B (B.idxOf e)=e:=by
 have h1:=List.idxOf_lt_length_of_mem h
 exact ⟨h1,by rw [Zi h1]; exact List.getElem_idxOf h1⟩
structure GZ (σ0:Qa) (ext:List DV) (m:List (E×Int)) (B:List E) (n:DV) (is:List Int) (ix:DV) (es:List Edg) (ex bx ax y:DV) (σ:Qa):Prop where
 gy:GY σ0 ext m B [n,ix,ex,bx,ax] y σ
 gm:∀ j,j<B.length->WW m (ge B j)=some (j:Int)
 ob:Out σ (σ0.length+5) 1 B.length (Qr (B.map Prod.fst)) bx
 oa:Out σ (σ0.length+5) 1 B.length (Qr (B.map Prod.snd)) ax
 ap:Apart bx ax
 ri:RowG σ (σ0.length+5) 1 is.length (Qr is) ix
 re:RowG σ (σ0.length+5) 3 es.length (Zd es) ex
 iy:∀ r,rowR ix=some r->rowR y≠some r
 ey:∀ r,rowR ex=some r->rowR y≠some r
 ie:∀ r,rowR ix=some r->rowR ex≠some r
section
variable {σ0 : Qa} {ext : List DV} {m : List (E × Int)} {B : List E} {n : DV} {is : List Int} {ix ex : DV} {es : List Edg} {bx ax y : DV} {σ : Qa}
theorem GZ.snoc (h:GZ σ0 ext m B n is ix es ex bx ax y σ) (row:Row):GZ σ0 ext m B n is ix es ex bx ax y (σ++[row]):=
 ⟨h.gy.snoc row,h.gm,Out.snocM h.ob row,Out.snocM h.oa row,h.ap,h.ri.snoc row,h.re.snoc row,h.iy,h.ey,h.ie⟩
theorem GZ.num (h:GZ σ0 ext m B n is ix es ex bx ax y σ) {e:E} (he:e∈B):(WW m e).getD 0=((B.idxOf e:Nat):Int):=by
 obtain ⟨h1,h2⟩:=ZK he
 have:=h.gm _ h1
 rw [h2] at this
 rw [this]; rfl
theorem row_new {y:DV} {σ:Qa} {B:Nat} {A:List E} (h:RowL σ B A y) {r:Nat} (hr:σ.length<=r):rowR y≠some r:=by
 rcases h with ⟨_,rfl⟩ | ⟨r',rfl,e,_⟩
 ·simp [rowR]
 ·have:=QT e
  simp [rowR]; omega
theorem rowG_new {y:DV} {σ:Qa} {B sz n:Nat} {cs:List PV} (h:RowG σ B sz n cs y) {r:Nat} (hr:σ.length<=r):rowR y≠some r:=fun e=>by
 have:=(h.row_ge e).2.1
 omega
theorem GZ.pushI (h:GZ σ0 ext m B n is ix es ex bx ax y σ) (hn:is.length<=100000) (v:Int) :
  ∃ ix' σ1,append PP 0 true 22 22 ix (.p (.sl true 1 [pI v])) σ=some (ix',σ1)/\store PP 0 22 (.ptr (σ0.length+3) 1) ix' σ1=some (σ1.set (σ0.length+3) (.mix [n,ix',ex,bx,ax,.map (σ0.length+2)]))/\
   GZ σ0 ext m B n (is++[v]) ix' es ex bx ax y (σ1.set (σ0.length+3) (.mix [n,ix',ex,bx,ax,.map (σ0.length+2)])):=by
 have hl:=h.gy.g.len
 obtain ⟨σ1,p1,p2,p3,p4⟩:=h.ri.push (lo:=0) (vs:=[pI v]) UI u22 s3 VO Uy rfl (by decide) (by decide) (by decide) rfl (by omega) hl (Nat.zero_le _)
 have hy:=h.gy.keep h.ri p3 h.iy
 have hot:=hy.g.ot
 have hst:=st22_1 (v:=.rsl σ.length 1 0 (is.length+1)) hot rfl rfl
 refine ⟨_,σ1,p1,hst,?_⟩
 have e1:Qr is++[pI v]=Qr (is++[v]):=by simp [Qr]
 have e2:(is++[v]).length=is.length+1:=by simp
 rw [e1] at p2
 have hrow:∀ r,rowR (.rsl σ.length 1 0 (is.length+1))=some r->σ.length<=r:=fun r hr=>by
  have:σ.length=r:=by simpa [rowR] using hr
  omega
 refine ⟨hy.setO (o':=[n,.rsl σ.length 1 0 (is.length+1),ex,bx,ax]) rfl,h.gm,Out.setLow (Out.keep h.ob h.ri p3) (by omega) _,Out.setLow (Out.keep h.oa h.ri p3) (by omega) _,h.ap,?_,(h.re.keep p3 h.ie).setNe (by omega),?_,h.ey,?_⟩
 ·rw [e2]; exact p2.setNe (by omega)
 ·exact fun r hr=>row_new h.gy.ry (hrow r hr)
 ·exact fun r hr=>rowG_new h.re (hrow r hr)
theorem GZ.pushE (h:GZ σ0 ext m B n is ix es ex bx ax y σ) (hn:es.length<=1000000) (v:Edg) :
  ∃ ex' σ1,append PP 0 true 23 23 ex (.p (.sl true 1 (eEdg v))) σ=some (ex',σ1)/\store PP 0 23 (.ptr (σ0.length+3) 2) ex' σ1=some (σ1.set (σ0.length+3) (.mix [n,ix,ex',bx,ax,.map (σ0.length+2)]))/\
   GZ σ0 ext m B n is ix (es++[v]) ex' bx ax y (σ1.set (σ0.length+3) (.mix [n,ix,ex',bx,ax,.map (σ0.length+2)])):=by
 have hl:=h.gy.g.len
 obtain ⟨σ1,p1,p2,p3,p4⟩:=h.re.push (lo:=0) (vs:=eEdg v) src23 u23 s69 bytes69 Us rfl (by decide) (by decide) (by decide) rfl (by omega) hl (Nat.zero_le _)
 have hy:=h.gy.keep h.re p3 h.ey
 have hot:=hy.g.ot
 have hst:=st23_2 (v:=.rsl σ.length 3 0 (es.length+1)) hot rfl rfl
 refine ⟨_,σ1,p1,hst,?_⟩
 have e1:∀ l:List Edg,Zd l++eEdg v=Zd (l++[v]):=fun l=>by
  induction l with
  | nil=>simp [Zd,eEdg]
  | cons a l ih=>simp only [List.cons_append,Zd,List.append_assoc,ih]
 have e2:(es++[v]).length=es.length+1:=by simp
 rw [e1] at p2
 have hrow:∀ r,rowR (.rsl σ.length 3 0 (es.length+1))=some r->σ.length<=r:=fun r hr=>by
  have:σ.length=r:=by simpa [rowR] using hr
  omega
 refine ⟨hy.setO (o':=[n,ix,.rsl σ.length 3 0 (es.length+1),bx,ax]) rfl,h.gm,Out.setLow (Out.keep h.ob h.re p3) (by omega) _,Out.setLow (Out.keep h.oa h.re p3) (by omega) _,h.ap,(h.ri.keep p3 (fun r hr he=>h.ie r he hr)).setNe (by omega),?_,h.iy,?_,?_⟩
 ·rw [e2]; exact p2.setNe (by omega)
 ·exact fun r hr=>row_new h.gy.ry (hrow r hr)
 ·exact fun r hr=>fun he=>rowG_new h.ri (r:=r) (hrow r he) hr
end
section
variable {σ0 : Qa} {ext : List DV} {m : List (E × Int)} {B : List E} {n : DV} {ex : DV} {es : List Edg} {bx ax y y0 : DV}
theorem gr_L4 {l:List E} (hx:∀ k,k<l.length->indexAddr PP 134 y0 (.p (.int .i64 (k:Nat)))=some (.pptr (Vx l) (k*2))) (hmem:∀ e∈l,e∈B) (hl:l.length<=12) (hasc:∀ i,i+1<(nums B l).length->(nums B l).getD i 0<(nums B l).getD (i+1) 0) :
  ∀ (d k:Nat) (ix:DV) (σ:Qa),l.length-k=d->k<=l.length->GZ σ0 ext m B n (nums B (l.take k)) ix es ex bx ax y σ->
  ∃ ix' σ',f85_L4 Qb 0 (.ptr σ0.length 0) (.ptr (σ0.length+1) 0) (.ptr (σ0.length+3) 0) (.ptr (σ0.length+4) 0) y0 (N l.length) (N k) σ=f85_L5 Qb 0 (.ptr σ0.length 0) (.ptr (σ0.length+1) 0) (.ptr (σ0.length+3) 0) (.ptr (σ0.length+4) 0) y (N B.length) (N 0) σ'/\
   GZ σ0 ext m B n (nums B l) ix' es ex bx ax y σ'
 | 0,k,ix,σ,hd,hk,h=>by
  have e:l.take k=l:=List.take_of_length_le (by omega)
  rw [e] at h
  have hot:=h.gy.g.ot
  simp only [gP] at hot
  have hln:(nums B l).length=l.length:=by simp [nums]
  have h113:=S113 h.ri (fun i hi=>Int.le_of_lt (hasc i hi)) (by omega)
  have h114:=S114 h.ri hasc (by omega)
  have hone:ix.one=true/\ix.cells=[ix]:=by
   rcases h.ri.2 with ⟨_,rfl⟩ | ⟨_,q,rfl,_⟩ <;> exact ⟨rfl,rfl⟩
  have hst:=st22_1 (v:=ix) hot hone.1 hone.2
  have hsame:σ.set (σ0.length+3) (.mix [n,ix,ex,bx,ax,.map (σ0.length+2)])=σ:=by
   apply List.ext_getElem?
   intro i
   by_cases hi:i=σ0.length+3
   ·subst hi; rw [List.getElem?_set_self (QT hot),hot]
   ·rw [List.getElem?_set_ne (by omega)]
  rw [hsame] at hst
  refine ⟨ix,σ,?_,h⟩
  rw [f85_L4_eq Qb rfl]
  simp (disch:=omega) only [N,Qn,ltF,gG,UR,Wq,WE,gP,QO,Qc (off:=1) hot rfl,Qq,h113,h114,hst,Vk,Qc (off:=0) h.gy.ay rfl,lenR h.gy.ry]
  rfl
 | d+1,k,ix,σ,hd,hk,h=>by
  have hkl:k<l.length:=by omega
  have he:ge l k∈B:=hmem _ (by rw [Zi hkl]; exact List.getElem_mem hkl)
  have hsn:=stNew (lo:=0) (σ:=σ) (ge l k) (Nat.zero_le _)
  have h1:=h.snoc (.mix (cel (ge l k)))
  have hB:(σ++[Row.mix (cel (ge l k))])[σ.length]?=some (.mix (cel (ge l k))):=QB
  have hlk:=lookZ0 h1.gy.g.mp (ge l k)
  rw [h.num he] at hlk
  have hom:=h1.gy.g.omap
  have hot:=h1.gy.g.ot
  simp only [gP] at hot
  have hnl:(nums B (l.take k)).length<=100000:=by simp [nums]; omega
  obtain ⟨ix2,σ1,p1,p2,p3⟩:=h1.pushI hnl ((B.idxOf (ge l k):Nat):Int)
  have e1:nums B (l.take k)++[((B.idxOf (ge l k):Nat):Int)]=nums B (l.take (k+1)):=by
   rw [List.take_succ_eq_append_getElem hkl,Zi hkl]; unfold nums; rw [List.map_append]; rfl
  rw [e1] at p3
  obtain ⟨ix',σ',r1,r2⟩:=gr_L4 hx hmem hl hasc d (k+1) ix2 _ (by omega) (by omega) p3
  refine ⟨ix',σ',?_,r2⟩
  have hix:=hx k hkl
  have hld:=ldB hkl σ
  rw [<-r1,f85_L4_eq Qb rfl]
  simp (disch:=omega) only [N,Qn,ltT,gG,hix,hld,Jd,hsn,UR,UD,Wq,WE,gP,QO,Qc (off:=1) hot rfl,UB,hom,Jt hB,hlk,Vs,p1,p2,add1]
end
end Go.D.StS
end
/- Chapter 22: graph, fifth part: the steps. -/
section
set_option linter.unusedVariables false
set_option linter.unusedSimpArgs false
namespace Go.D.StS
open Go.D.Srt
theorem bld69 (x y z:Int):build PP 69 [(0,.p (.int .i64 x)),(1,.p (.int .i64 y)),(2,.p (.int .i64 z))]=some (.agg (edgD ⟨x,y,z⟩)):=Eq.trans (by kernel_rfl) rfl
theorem bs23_1 (e:Edg) (σ:Qa):buildSlice PP none 23 1 [(0,.agg (edgD e))] σ=some (.p (.sl true 1 (eEdg e)),σ):=Eq.trans (by kernel_rfl) rfl
def rowE (B:List E) (i:Nat) (l:List Edg):List Edg:=l.map fun e=>⟨(i:Int),((B.idxOf (toE e):Nat):Int),e.a⟩
def rawE (M:E->OE) (B:List E):Nat->List E->List Edg
 | _,[]=>[]
 | i,x::l=>rowE B i (L (M x))++rawE M B (i+1) l
theorem rowE_len (B:List E) (i:Nat) (l:List Edg):(rowE B i l).length=l.length:=by simp [rowE]
section
variable {σ0 : Qa} {ext : List DV} {m : List (E × Int)} {B : List E} {n : DV} {is : List Int} {ix : DV} {bx ax y : DV}
theorem gr_L6 {i:Nat} (hi:i<=100000) {q:OE} (hl:(L q).length<=10000) (hmem:∀ e∈L q,toE e∈B) :
  ∀ (d k:Nat) (es:List Edg) (ex:DV) (σ:Qa),(L q).length-k=d->k<=(L q).length->es.length+(L q).length<=1000000+k->GZ σ0 ext m B n is ix es ex bx ax y σ->
  ∃ ex' σ',f85_L6 Qb 0 (.ptr σ0.length 0) (.ptr (σ0.length+1) 0) (.ptr (σ0.length+3) 0) (.ptr (σ0.length+4) 0) (N i) y (N B.length) (N i) (.p (eEs q)) (N (L q).length) (N k) σ =
   f85_L5 Qb 0 (.ptr σ0.length 0) (.ptr (σ0.length+1) 0) (.ptr (σ0.length+3) 0) (.ptr (σ0.length+4) 0) y (N B.length) (N (i+1)) σ'/\
   GZ σ0 ext m B n is ix (es++rowE B i ((L q).drop k)) ex' bx ax y σ'
 | 0,k,es,ex,σ,hd,hk,hs,h=>by
  refine ⟨ex,σ,?_,by rw [List.drop_of_length_le (by omega)]; simpa [rowE] using h⟩
  rw [f85_L6_eq Qb rfl]
  simp (disch:=omega) only [N,Qn,ltF,gG,add1]
 | d+1,k,es,ex,σ,hd,hk,hs,h=>by
  have hkl:k<(L q).length:=by omega
  have e0:(L q).drop k=gE (L q) k::(L q).drop (k+1):=by
   rw [Vw hkl]; exact List.drop_eq_getElem_cons hkl
  have he:toE (gE (L q) k)∈B:=hmem _ (by rw [Vw hkl]; exact List.getElem_mem hkl)
  have h1:=h.snoc (.mix (edgD (gE (L q) k)))
  have hB:(σ++[Row.mix (edgD (gE (L q) k))])[σ.length]?=some (.mix (edgD (gE (L q) k))):=QB
  have hsn:=stN141 (lo:=0) (σ:=σ) (gE (L q) k) (Nat.zero_le _)
  have hlk:=lookZ0 h1.gy.g.mp (toE (gE (L q) k))
  rw [h.num he] at hlk
  have hom:=h1.gy.g.omap
  have hot:=h1.gy.g.ot
  simp only [gP] at hot
  obtain ⟨ex2,σ1,p1,p2,p3⟩:=h1.pushE (by omega) ⟨(i:Int),((B.idxOf (toE (gE (L q) k)):Nat):Int),(gE (L q) k).a⟩
  obtain ⟨ex',σ',r1,r2⟩:=gr_L6 hi hl hmem d (k+1) _ ex2 _ (by omega) (by omega) (by simp; omega) p3
  refine ⟨ex',σ',?_,?_⟩
  ·rw [<-r1,f85_L6_eq Qb rfl]
   simp (disch:=omega) only [N,Qn,ltT,gG,idx138,load141,ld141,Uo,hsn,UR,UD,Wq,Zg,fa141_0,fa141_1,gP,Zc,Qc (off:=2) hot rfl,UB,hom,ldTo hB,hlk,QF,ldAct hB,bld69,bs23_1,p1,p2,add1]
  ·rw [e0]
   have e3:es++rowE B i (gE (L q) k::(L q).drop (k+1))=es++[(⟨(i:Int),((B.idxOf (toE (gE (L q) k)):Nat):Int),(gE (L q) k).a⟩:Edg)]++rowE B i ((L q).drop (k+1)):=by simp [rowE]
   rw [e3]; exact r2
end
section
variable {σ0 : Qa} {y0 : DV} {m : List (E × Int)} {B : List E} {n : DV} {is : List Int} {ix : DV} {bx ax y : DV}
theorem gr_L5 {mv:FuncId} {caps:List DV} (M:E->OE) (hB:B.length<=1000) (hM:∀ x∈B,∀ σ:Qa,(∀ j,j<σ0.length->σ[j]?=σ0[j]?)->Qv CC mv (val x::caps) σ=some (.p (eEs (M x)))) (hl:∀ x∈B,(L (M x)).length<=200)
  (hmem:∀ x∈B,∀ e∈L (M x),toE e∈B) :
  ∀ (d i:Nat) (es:List Edg) (ex:DV) (σ:Qa),B.length-i=d->i<=B.length->es.length<=200*i->GZ σ0 [y0,.fn mv caps] m B n is ix es ex bx ax y σ->
  ∃ ex' σ',f85_L5 Qb 0 (.ptr σ0.length 0) (.ptr (σ0.length+1) 0) (.ptr (σ0.length+3) 0) (.ptr (σ0.length+4) 0) y (N B.length) (N i) σ =
   f85_L5 Qb 0 (.ptr σ0.length 0) (.ptr (σ0.length+1) 0) (.ptr (σ0.length+3) 0) (.ptr (σ0.length+4) 0) y (N B.length) (N B.length) σ'/\
   GZ σ0 [y0,.fn mv caps] m B n is ix (es++rawE M B i (B.drop i)) ex' bx ax y σ'
 | 0,i,es,ex,σ,hd,hi,hs,h=>by
  have e:i=B.length:=by omega
  subst e
  exact ⟨ex,σ,rfl,by rw [List.drop_length]; simpa [rawE] using h⟩
 | d+1,i,es,ex,σ,hd,hi,hs,h=>by
  have hil:i<B.length:=by omega
  have hx:ge B i∈B:=by rw [Zi hil]; exact List.getElem_mem hil
  have e0:B.drop i=ge B i::B.drop (i+1):=by rw [Zi hil]; exact List.drop_eq_getElem_cons hil
  obtain ⟨p,hp1,hp2⟩:=h.gy.at hil
  have hsn:=stNew (lo:=0) (σ:=σ) (ge B i) (Nat.zero_le _)
  have h1:=h.snoc (.mix (cel (ge B i)))
  have hB7:(σ++[Row.mix (cel (ge B i))])[σ.length]?=some (.mix (cel (ge B i))):=QB
  have hex:=h1.gy.g.ex
  have hmv:=hM _ hx _ h1.gy.g.low
  have hln:=hl _ hx
  obtain ⟨ex2,σ2,r1,r2⟩:=gr_L6 (i:=i) (by omega) (by omega) (hmem _ hx) _ 0 es ex _ rfl (Nat.zero_le _) (by omega) h1
  rw [List.drop_zero] at r2
  obtain ⟨ex',σ',w1,w2⟩:=gr_L5 M hB hM hl hmem d (i+1) _ ex2 σ2 (by omega) (by omega) (by rw [List.length_append,rowE_len]; omega) r2
  refine ⟨ex',σ',?_,?_⟩
  ·rw [<-w1,<-r1,f85_L5_eq Qb rfl]
   simp (disch:=omega) only [N,Qn,ltT,gG,hp1,hp2,Jd,hsn,fa137_1,gP,load135,Qc (off:=1) hex rfl,Jt hB7,hmv,len138]
   rfl
  ·rw [e0,rawE,<-List.append_assoc]; exact w2
end
end Go.D.StS
end
/- Equations of functions 124, 145, 154, 155, 164, 156, 157, 165, 166, 167, 158, 159, 160, 161, printed by gen.py. -/
section
set_option linter.unusedVariables false
set_option maxRecDepth 10000
namespace Go.D
open Go.Proofs
noncomputable section
variable (G:Qe) (lo:Nat) {σ:Qa} {r:DV×Qa}
open _root_.Go.D.Code (fstC sndC)
open _root_.Go.D.Ann (left right)
def c124_0:Code:=Qs Tryz.f124
def a124_0:Ann:=(pol 124).ann
def F124 (a b:DV) (σ:Qa):RS:=
 Qm G PP (pol 124) CC lo c124_0 a124_0 (a::b::zn 12 []) σ (finR PP Tryz.f124.results.toList)
theorem F124_eq (G:Qe) (lo:Nat) (a b:DV) (σ:Qa):F124 G lo a b σ =
 (len PP 23 a σ).bind fun O=>
 (convert PP 3 165 O).bind fun i=>
 (Qg CC (DV.fn 122 []) [i] σ).bind fun j=>
 (Qd CC lo (DV.fn 145 []) [a,I0,O,j,b] σ).bind fun r13_1=>
 some ((DV.tuple []),r13_1.2):=by kernel_rfl
theorem F124_call {lo:Nat} {a b:DV} (h:F124 Qb lo a b σ=some r):CC lo 124 [a,b] σ=some r:=
 callL_run Tryz.func124 (by decide +kernel) rfl (by decide +kernel) h
def c145_0:Code:=Qs Tryz.f145
def a145_0:Ann:=(pol 145).ann
def a145_4:Ann:=right (right a145_0)
def a145_5:Ann:=left a145_4
def c145_6:Code:=fstC (fstC (sndC (sndC c145_0)))
def a145_6:Ann:=left a145_5
def c145_33:Code:=sndC (sndC (sndC (sndC (fstC c145_6))))
def a145_33:Ann:=right (right (right (right (left a145_6))))
def c145_45:Code:=sndC (sndC c145_33)
def a145_45:Ann:=right (right a145_33)
def c145_55:Code:=sndC c145_45
def a145_55:Ann:=right a145_45
def f145_L0 (a b c d f i j:DV) (σ:Qa):RS:=
 Qm G PP (pol 145) CC lo (.loop c145_6) a145_5 (a::b::c::d::f::zn 5 (i::j::zn 136 [])) σ
 (Qf 0 a145_4 (finR PP Tryz.f145.results.toList))
def f145_J0 (a b c d f i j l u o z K A B I Y L C x y X P N t:DV) (σ:Qa):RS:=
 (seqC G PP (pol 145) CC lo c145_33 a145_33 (Qf 1 a145_6 (QN G PP (pol 145) CC lo c145_6 a145_5 (Qf 0 a145_4 (finR PP Tryz.f145.results.toList))))) .normal (a::b::c::d::f::zn 5 (i::j::l::zn 8 (u::o::z::K::A::zn 5 (B::I::zn 5 (Y::L::C::x::y::X::P::N::t::zn 101 []))))) σ
def f145_J1 (a b c d f i j l q w u o z K A B I Y L C x y X P N t J E ak ar az T W aa b9 be bp av bc bb bh bm bi bj bu bg bf:DV) (σ:Qa):RS:=
 (seqC G PP (pol 145) CC lo c145_45 a145_45 (Qf 1 a145_6 (QN G PP (pol 145) CC lo c145_6 a145_5 (Qf 0 a145_4 (finR PP Tryz.f145.results.toList))))) .normal (a::b::c::d::f::zn 5 (i::j::l::q::w::zn 6 (u::o::z::K::A::zn 5 (B::I::zn 5 (Y::L::C::x::y::X::P::N::t::J::E::ak::ar::az::T::W::aa::b9::be::bp::av::bc::bb::bh::bm::bi::bj::bu::bg::bf::zn 80 []))))) σ
def f145_J2 (a b c d f i j l q w u o z K A B I Y L C x y X P N t J E ak ar az T W aa b9 be bp av bc bb bh bm bi bj bu bg bf cm dc br ba cz cc M ck ca bq bz bv c7:DV) (σ:Qa):RS:=
 (seqC G PP (pol 145) CC lo c145_55 a145_55 (Qf 1 a145_6 (QN G PP (pol 145) CC lo c145_6 a145_5 (Qf 0 a145_4 (finR PP Tryz.f145.results.toList))))) .normal (a::b::c::d::f::zn 5 (i::j::l::q::w::zn 6 (u::o::z::K::A::zn 5 (B::I::zn 5 (Y::L::C::x::y::X::P::N::t::J::E::ak::ar::az::T::W::aa::b9::be::bp::av::bc::bb::bh::bm::bi::bj::bu::bg::bf::cm::dc::br::ba::cz::cc::M::ck::ca::bq::bz::bv::c7::zn 67 []))))) σ
def F145 (a b c d f:DV) (σ:Qa):RS:=
 Qm G PP (pol 145) CC lo c145_0 a145_0 (a::b::c::d::f::zn 143 []) σ (finR PP Tryz.f145.results.toList)
theorem f145_J0_eq (G:Qe) (lo:Nat) (a b c d f i j l u o z K A B I Y L C x y X P N t:DV) (σ:Qa):f145_J0 G lo a b c d f i j l u o z K A B I Y L C x y X P N t σ =
 (Qd CC lo (DV.fn 157 []) [a,b,c,f] σ).bind fun r52_4=>
 (Qj r52_4.1 0).bind fun W=>
 (Qj r52_4.1 1).bind fun aa=>
 (binOp PP .eql 169 aa (DV.p (PV.int IntKind.i64 (2)))).bind fun be=>
 Qh be
 (
 (Qd CC lo (DV.fn 158 []) [a,b,c,f] r52_4.2).bind fun r61_5=>
 (binOp PP .sub 3 c I1).bind fun bi=>
 (binOp PP .sub 3 W b).bind fun bg=>
 (binOp PP .sub 3 bi bg).bind fun bf=>
 f145_J1 G lo a b c d f i j l bf I1 u o z K A B I Y L C x y X P N t r52_4.1 a b c f r52_4.1 W aa aa be a b c f r61_5.1 c bi W b bg bf r61_5.2
 )
 (
 f145_J1 G lo a b c d f i j l W aa u o z K A B I Y L C x y X P N t r52_4.1 a b c f r52_4.1 W aa aa be Z Z Z Z Z Z Z Z Z Z Z r52_4.2
 ):=by kernel_rfl
theorem f145_J1_eq (G:Qe) (lo:Nat) (a b c d f i j l q w u o z K A B I Y L C x y X P N t J E ak ar az T W aa b9 be bp av bc bb bh bm bi bj bu bg bf:DV) (σ:Qa):f145_J1 G lo a b c d f i j l q w u o z K A B I Y L C x y X P N t J E ak ar az T W aa b9 be bp av bc bb bh bm bi bj bu bg bf σ =
 G _ i true (some (j,σ)) σ fun br σ6=>
 (Qt i br (DV.p (PV.bool false))).bind fun ba=>
 G _ ba true (some (w,σ6)) σ6 fun cc σ7=>
 Gp G ba true (binOp PP .eql 169 cc I1) σ7 fun M σ8=>
 (Qt ba M (DV.p (PV.bool false))).bind fun ck=>
 Qh ck
 (
 (Qd CC lo (DV.fn 159 []) [a,b,c,f] σ8).bind fun r80_9=>
 Qh r80_9.1
 (
 some ((DV.tuple []),r80_9.2)
 )
 (
 f145_J2 G lo a b c d f i j l q w u o z K A B I Y L C x y X P N t J E ak ar az T W aa b9 be bp av bc bb bh bm bi bj bu bg bf i i br ba ba cc M ck a b c f r80_9.1 r80_9.2
 )
 )
 (
 f145_J2 G lo a b c d f i j l q w u o z K A B I Y L C x y X P N t J E ak ar az T W aa b9 be bp av bc bb bh bm bi bj bu bg bf i i br ba ba cc M ck Z Z Z Z Z σ8
 ):=by kernel_rfl
theorem f145_J2_eq (G:Qe) (lo:Nat) (a b c d f i j l q w u o z K A B I Y L C x y X P N t J E ak ar az T W aa b9 be bp av bc bb bh bm bi bj bu bg bf cm dc br ba cz cc M ck ca bq bz bv c7:DV) (σ:Qa):f145_J2 G lo a b c d f i j l q w u o z K A B I Y L C x y X P N t J E ak ar az T W aa b9 be bp av bc bb bh bm bi bj bu bg bf cm dc br ba cz cc M ck ca bq bz bv c7 σ =
 (binOp PP .gtr 3 b I0).bind fun n=>
 G _ n true (some (f,σ)) σ fun bk σ10=>
 G _ n true (some (a,σ10)) σ10 fun bt σ11=>
 G _ n true (some (b,σ11)) σ11 fun bn σ12=>
 Gp G n true (binOp PP .sub 3 bn I1) σ12 fun bw σ13=>
 Gp G n true (indexAddr PP 23 bt bw) σ13 fun cn σ14=>
 Gp G n true (load PP 69 cn σ14) σ14 fun ch σ15=>
 G _ n true (some (a,σ15)) σ15 fun co σ16=>
 G _ n true (some (q,σ16)) σ16 fun ct σ17=>
 Gp G n true (indexAddr PP 23 co ct) σ17 fun ci σ18=>
 Gp G n true (load PP 69 ci σ18) σ18 fun ce σ19=>
 Gp G n true (Qg CC bk [ch,ce] σ19) σ19 fun cb σ20=>
 Gp G n true (binOp PP .lss 3 cb I0) σ20 fun cj σ21=>
 Gp G n true (unOp .not cj) σ21 fun c8 σ22=>
 (Qt n c8 (DV.p (PV.bool false))).bind fun cd=>
 Qh cd
 (
 (Qd CC lo (DV.fn 160 []) [a,b,c,q,f] σ22).bind fun r103_23=>
 f145_L0 G lo a r103_23.1 c d f i j r103_23.2
 )
 (
 (Qd CC lo (DV.fn 161 []) [a,b,c,q,f] σ22).bind fun r111_24=>
 (Qj r111_24.1 0).bind fun am=>
 (Qj r111_24.1 1).bind fun c9=>
 (binOp PP .sub 3 am b).bind fun cp=>
 (binOp PP .sub 3 c am).bind fun cg=>
 (binOp PP .quo 3 l (DV.p (PV.int IntKind.i64 (8)))).bind fun cq=>
 (binOp PP .lss 3 cp cg).bind fun cu=>
 Qh cu
 (
 (binOp PP .geq 3 cp cq).bind fun db=>
 (Qd CC lo (DV.fn 145 []) [a,b,am,d,f] r111_24.2).bind fun r134_25=>
 (binOp PP .add 3 am I1).bind fun dg=>
 f145_L0 G lo a dg c d f db c9 r134_25.2
 )
 (
 (binOp PP .geq 3 cg cq).bind fun da=>
 (binOp PP .add 3 am I1).bind fun dp=>
 (Qd CC lo (DV.fn 145 []) [a,dp,c,d,f] r111_24.2).bind fun r146_26=>
 f145_L0 G lo a b am d f da c9 r146_26.2
 )
 ):=by kernel_rfl
theorem f145_L0_eqN (G:Qe) (hG:Qo G) (lo:Nat) (a b c d f i j:DV) (σ:Qa):f145_L0 G lo a b c d f i j σ =
 (binOp PP .sub 3 c b).bind fun z=>
 (binOp PP .leq 3 z (DV.p (PV.int IntKind.i64 (12)))).bind fun A=>
 Qh A
 (
 (Qd CC lo (DV.fn 154 []) [a,b,c,f] σ).bind fun r30_1=>
 some ((DV.tuple []),r30_1.2)
 )
 (
 (binOp PP .eql 3 d I0).bind fun I=>
 Qh I
 (
 (Qd CC lo (DV.fn 155 []) [a,b,c,f] σ).bind fun r37_2=>
 some ((DV.tuple []),r37_2.2)
 )
 (
 (unOp .not i).bind fun L=>
 Qh L
 (
 (Qd CC lo (DV.fn 156 []) [a,b,c,f] σ).bind fun r44_3=>
 (binOp PP .sub 3 d I1).bind fun t=>
 (Qd CC lo (DV.fn 157 []) [a,b,c,f] r44_3.2).bind fun r52_4=>
 (Qj r52_4.1 0).bind fun W=>
 (Qj r52_4.1 1).bind fun aa=>
 (binOp PP .eql 169 aa (DV.p (PV.int IntKind.i64 (2)))).bind fun be=>
 Qh be
 (
 (Qd CC lo (DV.fn 158 []) [a,b,c,f] r52_4.2).bind fun r61_5=>
 (binOp PP .sub 3 c I1).bind fun bi=>
 (binOp PP .sub 3 W b).bind fun bg=>
 (binOp PP .sub 3 bi bg).bind fun bf=>
 G _ i true (some (j,r61_5.2)) r61_5.2 fun br σ6=>
 (Qt i br (DV.p (PV.bool false))).bind fun ba=>
 G _ ba true (some (I1,σ6)) σ6 fun cc σ7=>
 Gp G ba true (binOp PP .eql 169 cc I1) σ7 fun M σ8=>
 (Qt ba M (DV.p (PV.bool false))).bind fun ck=>
 Qh ck
 (
 (Qd CC lo (DV.fn 159 []) [a,b,c,f] σ8).bind fun r80_9=>
 Qh r80_9.1
 (
 some ((DV.tuple []),r80_9.2)
 )
 (
 (binOp PP .gtr 3 b I0).bind fun n=>
 G _ n true (some (f,r80_9.2)) r80_9.2 fun bk σ10=>
 G _ n true (some (a,σ10)) σ10 fun bt σ11=>
 G _ n true (some (b,σ11)) σ11 fun bn σ12=>
 Gp G n true (binOp PP .sub 3 bn I1) σ12 fun bw σ13=>
 Gp G n true (indexAddr PP 23 bt bw) σ13 fun cn σ14=>
 Gp G n true (load PP 69 cn σ14) σ14 fun ch σ15=>
 G _ n true (some (a,σ15)) σ15 fun co σ16=>
 G _ n true (some (bf,σ16)) σ16 fun ct σ17=>
 Gp G n true (indexAddr PP 23 co ct) σ17 fun ci σ18=>
 Gp G n true (load PP 69 ci σ18) σ18 fun ce σ19=>
 Gp G n true (Qg CC bk [ch,ce] σ19) σ19 fun cb σ20=>
 Gp G n true (binOp PP .lss 3 cb I0) σ20 fun cj σ21=>
 Gp G n true (unOp .not cj) σ21 fun c8 σ22=>
 (Qt n c8 (DV.p (PV.bool false))).bind fun cd=>
 Qh cd
 (
 (Qd CC lo (DV.fn 160 []) [a,b,c,bf,f] σ22).bind fun r103_23=>
 f145_L0 G lo a r103_23.1 c t f i j r103_23.2
 )
 (
 (Qd CC lo (DV.fn 161 []) [a,b,c,bf,f] σ22).bind fun r111_24=>
 (Qj r111_24.1 0).bind fun am=>
 (Qj r111_24.1 1).bind fun c9=>
 (binOp PP .sub 3 am b).bind fun cp=>
 (binOp PP .sub 3 c am).bind fun cg=>
 (binOp PP .quo 3 z (DV.p (PV.int IntKind.i64 (8)))).bind fun cq=>
 (binOp PP .lss 3 cp cg).bind fun cu=>
 Qh cu
 (
 (binOp PP .geq 3 cp cq).bind fun db=>
 (Qd CC lo (DV.fn 145 []) [a,b,am,t,f] r111_24.2).bind fun r134_25=>
 (binOp PP .add 3 am I1).bind fun dg=>
 f145_L0 G lo a dg c t f db c9 r134_25.2
 )
 (
 (binOp PP .geq 3 cg cq).bind fun da=>
 (binOp PP .add 3 am I1).bind fun dp=>
 (Qd CC lo (DV.fn 145 []) [a,dp,c,t,f] r111_24.2).bind fun r146_26=>
 f145_L0 G lo a b am t f da c9 r146_26.2
 )
 )
 )
 )
 (
 (binOp PP .gtr 3 b I0).bind fun n=>
 G _ n true (some (f,σ8)) σ8 fun bk σ27=>
 G _ n true (some (a,σ27)) σ27 fun bt σ28=>
 G _ n true (some (b,σ28)) σ28 fun bn σ29=>
 Gp G n true (binOp PP .sub 3 bn I1) σ29 fun bw σ30=>
 Gp G n true (indexAddr PP 23 bt bw) σ30 fun cn σ31=>
 Gp G n true (load PP 69 cn σ31) σ31 fun ch σ32=>
 G _ n true (some (a,σ32)) σ32 fun co σ33=>
 G _ n true (some (bf,σ33)) σ33 fun ct σ34=>
 Gp G n true (indexAddr PP 23 co ct) σ34 fun ci σ35=>
 Gp G n true (load PP 69 ci σ35) σ35 fun ce σ36=>
 Gp G n true (Qg CC bk [ch,ce] σ36) σ36 fun cb σ37=>
 Gp G n true (binOp PP .lss 3 cb I0) σ37 fun cj σ38=>
 Gp G n true (unOp .not cj) σ38 fun c8 σ39=>
 (Qt n c8 (DV.p (PV.bool false))).bind fun cd=>
 Qh cd
 (
 (Qd CC lo (DV.fn 160 []) [a,b,c,bf,f] σ39).bind fun r103_40=>
 f145_L0 G lo a r103_40.1 c t f i j r103_40.2
 )
 (
 (Qd CC lo (DV.fn 161 []) [a,b,c,bf,f] σ39).bind fun r111_41=>
 (Qj r111_41.1 0).bind fun am=>
 (Qj r111_41.1 1).bind fun c9=>
 (binOp PP .sub 3 am b).bind fun cp=>
 (binOp PP .sub 3 c am).bind fun cg=>
 (binOp PP .quo 3 z (DV.p (PV.int IntKind.i64 (8)))).bind fun cq=>
 (binOp PP .lss 3 cp cg).bind fun cu=>
 Qh cu
 (
 (binOp PP .geq 3 cp cq).bind fun db=>
 (Qd CC lo (DV.fn 145 []) [a,b,am,t,f] r111_41.2).bind fun r134_42=>
 (binOp PP .add 3 am I1).bind fun dg=>
 f145_L0 G lo a dg c t f db c9 r134_42.2
 )
 (
 (binOp PP .geq 3 cg cq).bind fun da=>
 (binOp PP .add 3 am I1).bind fun dp=>
 (Qd CC lo (DV.fn 145 []) [a,dp,c,t,f] r111_41.2).bind fun r146_43=>
 f145_L0 G lo a b am t f da c9 r146_43.2
 )
 )
 )
 )
 (
 G _ i true (some (j,r52_4.2)) r52_4.2 fun br σ44=>
 (Qt i br (DV.p (PV.bool false))).bind fun ba=>
 G _ ba true (some (aa,σ44)) σ44 fun cc σ45=>
 Gp G ba true (binOp PP .eql 169 cc I1) σ45 fun M σ46=>
 (Qt ba M (DV.p (PV.bool false))).bind fun ck=>
 Qh ck
 (
 (Qd CC lo (DV.fn 159 []) [a,b,c,f] σ46).bind fun r80_47=>
 Qh r80_47.1
 (
 some ((DV.tuple []),r80_47.2)
 )
 (
 (binOp PP .gtr 3 b I0).bind fun n=>
 G _ n true (some (f,r80_47.2)) r80_47.2 fun bk σ48=>
 G _ n true (some (a,σ48)) σ48 fun bt σ49=>
 G _ n true (some (b,σ49)) σ49 fun bn σ50=>
 Gp G n true (binOp PP .sub 3 bn I1) σ50 fun bw σ51=>
 Gp G n true (indexAddr PP 23 bt bw) σ51 fun cn σ52=>
 Gp G n true (load PP 69 cn σ52) σ52 fun ch σ53=>
 G _ n true (some (a,σ53)) σ53 fun co σ54=>
 G _ n true (some (W,σ54)) σ54 fun ct σ55=>
 Gp G n true (indexAddr PP 23 co ct) σ55 fun ci σ56=>
 Gp G n true (load PP 69 ci σ56) σ56 fun ce σ57=>
 Gp G n true (Qg CC bk [ch,ce] σ57) σ57 fun cb σ58=>
 Gp G n true (binOp PP .lss 3 cb I0) σ58 fun cj σ59=>
 Gp G n true (unOp .not cj) σ59 fun c8 σ60=>
 (Qt n c8 (DV.p (PV.bool false))).bind fun cd=>
 Qh cd
 (
 (Qd CC lo (DV.fn 160 []) [a,b,c,W,f] σ60).bind fun r103_61=>
 f145_L0 G lo a r103_61.1 c t f i j r103_61.2
 )
 (
 (Qd CC lo (DV.fn 161 []) [a,b,c,W,f] σ60).bind fun r111_62=>
 (Qj r111_62.1 0).bind fun am=>
 (Qj r111_62.1 1).bind fun c9=>
 (binOp PP .sub 3 am b).bind fun cp=>
 (binOp PP .sub 3 c am).bind fun cg=>
 (binOp PP .quo 3 z (DV.p (PV.int IntKind.i64 (8)))).bind fun cq=>
 (binOp PP .lss 3 cp cg).bind fun cu=>
 Qh cu
 (
 (binOp PP .geq 3 cp cq).bind fun db=>
 (Qd CC lo (DV.fn 145 []) [a,b,am,t,f] r111_62.2).bind fun r134_63=>
 (binOp PP .add 3 am I1).bind fun dg=>
 f145_L0 G lo a dg c t f db c9 r134_63.2
 )
 (
 (binOp PP .geq 3 cg cq).bind fun da=>
 (binOp PP .add 3 am I1).bind fun dp=>
 (Qd CC lo (DV.fn 145 []) [a,dp,c,t,f] r111_62.2).bind fun r146_64=>
 f145_L0 G lo a b am t f da c9 r146_64.2
 )
 )
 )
 )
 (
 (binOp PP .gtr 3 b I0).bind fun n=>
 G _ n true (some (f,σ46)) σ46 fun bk σ65=>
 G _ n true (some (a,σ65)) σ65 fun bt σ66=>
 G _ n true (some (b,σ66)) σ66 fun bn σ67=>
 Gp G n true (binOp PP .sub 3 bn I1) σ67 fun bw σ68=>
 Gp G n true (indexAddr PP 23 bt bw) σ68 fun cn σ69=>
 Gp G n true (load PP 69 cn σ69) σ69 fun ch σ70=>
 G _ n true (some (a,σ70)) σ70 fun co σ71=>
 G _ n true (some (W,σ71)) σ71 fun ct σ72=>
 Gp G n true (indexAddr PP 23 co ct) σ72 fun ci σ73=>
 Gp G n true (load PP 69 ci σ73) σ73 fun ce σ74=>
 Gp G n true (Qg CC bk [ch,ce] σ74) σ74 fun cb σ75=>
 Gp G n true (binOp PP .lss 3 cb I0) σ75 fun cj σ76=>
 Gp G n true (unOp .not cj) σ76 fun c8 σ77=>
 (Qt n c8 (DV.p (PV.bool false))).bind fun cd=>
 Qh cd
 (
 (Qd CC lo (DV.fn 160 []) [a,b,c,W,f] σ77).bind fun r103_78=>
 f145_L0 G lo a r103_78.1 c t f i j r103_78.2
 )
 (
 (Qd CC lo (DV.fn 161 []) [a,b,c,W,f] σ77).bind fun r111_79=>
 (Qj r111_79.1 0).bind fun am=>
 (Qj r111_79.1 1).bind fun c9=>
 (binOp PP .sub 3 am b).bind fun cp=>
 (binOp PP .sub 3 c am).bind fun cg=>
 (binOp PP .quo 3 z (DV.p (PV.int IntKind.i64 (8)))).bind fun cq=>
 (binOp PP .lss 3 cp cg).bind fun cu=>
 Qh cu
 (
 (binOp PP .geq 3 cp cq).bind fun db=>
 (Qd CC lo (DV.fn 145 []) [a,b,am,t,f] r111_79.2).bind fun r134_80=>
 (binOp PP .add 3 am I1).bind fun dg=>
 f145_L0 G lo a dg c t f db c9 r134_80.2
 )
 (
 (binOp PP .geq 3 cg cq).bind fun da=>
 (binOp PP .add 3 am I1).bind fun dp=>
 (Qd CC lo (DV.fn 145 []) [a,dp,c,t,f] r111_79.2).bind fun r146_81=>
 f145_L0 G lo a b am t f da c9 r146_81.2
 )
 )
 )
 )
 )
 (
 (Qd CC lo (DV.fn 157 []) [a,b,c,f] σ).bind fun r52_82=>
 (Qj r52_82.1 0).bind fun W=>
 (Qj r52_82.1 1).bind fun aa=>
 (binOp PP .eql 169 aa (DV.p (PV.int IntKind.i64 (2)))).bind fun be=>
 Qh be
 (
 (Qd CC lo (DV.fn 158 []) [a,b,c,f] r52_82.2).bind fun r61_83=>
 (binOp PP .sub 3 c I1).bind fun bi=>
 (binOp PP .sub 3 W b).bind fun bg=>
 (binOp PP .sub 3 bi bg).bind fun bf=>
 G _ i true (some (j,r61_83.2)) r61_83.2 fun br σ84=>
 (Qt i br (DV.p (PV.bool false))).bind fun ba=>
 G _ ba true (some (I1,σ84)) σ84 fun cc σ85=>
 Gp G ba true (binOp PP .eql 169 cc I1) σ85 fun M σ86=>
 (Qt ba M (DV.p (PV.bool false))).bind fun ck=>
 Qh ck
 (
 (Qd CC lo (DV.fn 159 []) [a,b,c,f] σ86).bind fun r80_87=>
 Qh r80_87.1
 (
 some ((DV.tuple []),r80_87.2)
 )
 (
 (binOp PP .gtr 3 b I0).bind fun n=>
 G _ n true (some (f,r80_87.2)) r80_87.2 fun bk σ88=>
 G _ n true (some (a,σ88)) σ88 fun bt σ89=>
 G _ n true (some (b,σ89)) σ89 fun bn σ90=>
 Gp G n true (binOp PP .sub 3 bn I1) σ90 fun bw σ91=>
 Gp G n true (indexAddr PP 23 bt bw) σ91 fun cn σ92=>
 Gp G n true (load PP 69 cn σ92) σ92 fun ch σ93=>
 G _ n true (some (a,σ93)) σ93 fun co σ94=>
 G _ n true (some (bf,σ94)) σ94 fun ct σ95=>
 Gp G n true (indexAddr PP 23 co ct) σ95 fun ci σ96=>
 Gp G n true (load PP 69 ci σ96) σ96 fun ce σ97=>
 Gp G n true (Qg CC bk [ch,ce] σ97) σ97 fun cb σ98=>
 Gp G n true (binOp PP .lss 3 cb I0) σ98 fun cj σ99=>
 Gp G n true (unOp .not cj) σ99 fun c8 σ100=>
 (Qt n c8 (DV.p (PV.bool false))).bind fun cd=>
 Qh cd
 (
 (Qd CC lo (DV.fn 160 []) [a,b,c,bf,f] σ100).bind fun r103_101=>
 f145_L0 G lo a r103_101.1 c d f i j r103_101.2
 )
 (
 (Qd CC lo (DV.fn 161 []) [a,b,c,bf,f] σ100).bind fun r111_102=>
 (Qj r111_102.1 0).bind fun am=>
 (Qj r111_102.1 1).bind fun c9=>
 (binOp PP .sub 3 am b).bind fun cp=>
 (binOp PP .sub 3 c am).bind fun cg=>
 (binOp PP .quo 3 z (DV.p (PV.int IntKind.i64 (8)))).bind fun cq=>
 (binOp PP .lss 3 cp cg).bind fun cu=>
 Qh cu
 (
 (binOp PP .geq 3 cp cq).bind fun db=>
 (Qd CC lo (DV.fn 145 []) [a,b,am,d,f] r111_102.2).bind fun r134_103=>
 (binOp PP .add 3 am I1).bind fun dg=>
 f145_L0 G lo a dg c d f db c9 r134_103.2
 )
 (
 (binOp PP .geq 3 cg cq).bind fun da=>
 (binOp PP .add 3 am I1).bind fun dp=>
 (Qd CC lo (DV.fn 145 []) [a,dp,c,d,f] r111_102.2).bind fun r146_104=>
 f145_L0 G lo a b am d f da c9 r146_104.2
 )
 )
 )
 )
 (
 (binOp PP .gtr 3 b I0).bind fun n=>
 G _ n true (some (f,σ86)) σ86 fun bk σ105=>
 G _ n true (some (a,σ105)) σ105 fun bt σ106=>
 G _ n true (some (b,σ106)) σ106 fun bn σ107=>
 Gp G n true (binOp PP .sub 3 bn I1) σ107 fun bw σ108=>
 Gp G n true (indexAddr PP 23 bt bw) σ108 fun cn σ109=>
 Gp G n true (load PP 69 cn σ109) σ109 fun ch σ110=>
 G _ n true (some (a,σ110)) σ110 fun co σ111=>
 G _ n true (some (bf,σ111)) σ111 fun ct σ112=>
 Gp G n true (indexAddr PP 23 co ct) σ112 fun ci σ113=>
 Gp G n true (load PP 69 ci σ113) σ113 fun ce σ114=>
 Gp G n true (Qg CC bk [ch,ce] σ114) σ114 fun cb σ115=>
 Gp G n true (binOp PP .lss 3 cb I0) σ115 fun cj σ116=>
 Gp G n true (unOp .not cj) σ116 fun c8 σ117=>
 (Qt n c8 (DV.p (PV.bool false))).bind fun cd=>
 Qh cd
 (
 (Qd CC lo (DV.fn 160 []) [a,b,c,bf,f] σ117).bind fun r103_118=>
 f145_L0 G lo a r103_118.1 c d f i j r103_118.2
 )
 (
 (Qd CC lo (DV.fn 161 []) [a,b,c,bf,f] σ117).bind fun r111_119=>
 (Qj r111_119.1 0).bind fun am=>
 (Qj r111_119.1 1).bind fun c9=>
 (binOp PP .sub 3 am b).bind fun cp=>
 (binOp PP .sub 3 c am).bind fun cg=>
 (binOp PP .quo 3 z (DV.p (PV.int IntKind.i64 (8)))).bind fun cq=>
 (binOp PP .lss 3 cp cg).bind fun cu=>
 Qh cu
 (
 (binOp PP .geq 3 cp cq).bind fun db=>
 (Qd CC lo (DV.fn 145 []) [a,b,am,d,f] r111_119.2).bind fun r134_120=>
 (binOp PP .add 3 am I1).bind fun dg=>
 f145_L0 G lo a dg c d f db c9 r134_120.2
 )
 (
 (binOp PP .geq 3 cg cq).bind fun da=>
 (binOp PP .add 3 am I1).bind fun dp=>
 (Qd CC lo (DV.fn 145 []) [a,dp,c,d,f] r111_119.2).bind fun r146_121=>
 f145_L0 G lo a b am d f da c9 r146_121.2
 )
 )
 )
 )
 (
 G _ i true (some (j,r52_82.2)) r52_82.2 fun br σ122=>
 (Qt i br (DV.p (PV.bool false))).bind fun ba=>
 G _ ba true (some (aa,σ122)) σ122 fun cc σ123=>
 Gp G ba true (binOp PP .eql 169 cc I1) σ123 fun M σ124=>
 (Qt ba M (DV.p (PV.bool false))).bind fun ck=>
 Qh ck
 (
 (Qd CC lo (DV.fn 159 []) [a,b,c,f] σ124).bind fun r80_125=>
 Qh r80_125.1
 (
 some ((DV.tuple []),r80_125.2)
 )
 (
 (binOp PP .gtr 3 b I0).bind fun n=>
 G _ n true (some (f,r80_125.2)) r80_125.2 fun bk σ126=>
 G _ n true (some (a,σ126)) σ126 fun bt σ127=>
 G _ n true (some (b,σ127)) σ127 fun bn σ128=>
 Gp G n true (binOp PP .sub 3 bn I1) σ128 fun bw σ129=>
 Gp G n true (indexAddr PP 23 bt bw) σ129 fun cn σ130=>
 Gp G n true (load PP 69 cn σ130) σ130 fun ch σ131=>
 G _ n true (some (a,σ131)) σ131 fun co σ132=>
 G _ n true (some (W,σ132)) σ132 fun ct σ133=>
 Gp G n true (indexAddr PP 23 co ct) σ133 fun ci σ134=>
 Gp G n true (load PP 69 ci σ134) σ134 fun ce σ135=>
 Gp G n true (Qg CC bk [ch,ce] σ135) σ135 fun cb σ136=>
 Gp G n true (binOp PP .lss 3 cb I0) σ136 fun cj σ137=>
 Gp G n true (unOp .not cj) σ137 fun c8 σ138=>
 (Qt n c8 (DV.p (PV.bool false))).bind fun cd=>
 Qh cd
 (
 (Qd CC lo (DV.fn 160 []) [a,b,c,W,f] σ138).bind fun r103_139=>
 f145_L0 G lo a r103_139.1 c d f i j r103_139.2
 )
 (
 (Qd CC lo (DV.fn 161 []) [a,b,c,W,f] σ138).bind fun r111_140=>
 (Qj r111_140.1 0).bind fun am=>
 (Qj r111_140.1 1).bind fun c9=>
 (binOp PP .sub 3 am b).bind fun cp=>
 (binOp PP .sub 3 c am).bind fun cg=>
 (binOp PP .quo 3 z (DV.p (PV.int IntKind.i64 (8)))).bind fun cq=>
 (binOp PP .lss 3 cp cg).bind fun cu=>
 Qh cu
 (
 (binOp PP .geq 3 cp cq).bind fun db=>
 (Qd CC lo (DV.fn 145 []) [a,b,am,d,f] r111_140.2).bind fun r134_141=>
 (binOp PP .add 3 am I1).bind fun dg=>
 f145_L0 G lo a dg c d f db c9 r134_141.2
 )
 (
 (binOp PP .geq 3 cg cq).bind fun da=>
 (binOp PP .add 3 am I1).bind fun dp=>
 (Qd CC lo (DV.fn 145 []) [a,dp,c,d,f] r111_140.2).bind fun r146_142=>
 f145_L0 G lo a b am d f da c9 r146_142.2
 )
 )
 )
 )
 (
 (binOp PP .gtr 3 b I0).bind fun n=>
 G _ n true (some (f,σ124)) σ124 fun bk σ143=>
 G _ n true (some (a,σ143)) σ143 fun bt σ144=>
 G _ n true (some (b,σ144)) σ144 fun bn σ145=>
 Gp G n true (binOp PP .sub 3 bn I1) σ145 fun bw σ146=>
 Gp G n true (indexAddr PP 23 bt bw) σ146 fun cn σ147=>
 Gp G n true (load PP 69 cn σ147) σ147 fun ch σ148=>
 G _ n true (some (a,σ148)) σ148 fun co σ149=>
 G _ n true (some (W,σ149)) σ149 fun ct σ150=>
 Gp G n true (indexAddr PP 23 co ct) σ150 fun ci σ151=>
 Gp G n true (load PP 69 ci σ151) σ151 fun ce σ152=>
 Gp G n true (Qg CC bk [ch,ce] σ152) σ152 fun cb σ153=>
 Gp G n true (binOp PP .lss 3 cb I0) σ153 fun cj σ154=>
 Gp G n true (unOp .not cj) σ154 fun c8 σ155=>
 (Qt n c8 (DV.p (PV.bool false))).bind fun cd=>
 Qh cd
 (
 (Qd CC lo (DV.fn 160 []) [a,b,c,W,f] σ155).bind fun r103_156=>
 f145_L0 G lo a r103_156.1 c d f i j r103_156.2
 )
 (
 (Qd CC lo (DV.fn 161 []) [a,b,c,W,f] σ155).bind fun r111_157=>
 (Qj r111_157.1 0).bind fun am=>
 (Qj r111_157.1 1).bind fun c9=>
 (binOp PP .sub 3 am b).bind fun cp=>
 (binOp PP .sub 3 c am).bind fun cg=>
 (binOp PP .quo 3 z (DV.p (PV.int IntKind.i64 (8)))).bind fun cq=>
 (binOp PP .lss 3 cp cg).bind fun cu=>
 Qh cu
 (
 (binOp PP .geq 3 cp cq).bind fun db=>
 (Qd CC lo (DV.fn 145 []) [a,b,am,d,f] r111_157.2).bind fun r134_158=>
 (binOp PP .add 3 am I1).bind fun dg=>
 f145_L0 G lo a dg c d f db c9 r134_158.2
 )
 (
 (binOp PP .geq 3 cg cq).bind fun da=>
 (binOp PP .add 3 am I1).bind fun dp=>
 (Qd CC lo (DV.fn 145 []) [a,dp,c,d,f] r111_157.2).bind fun r146_159=>
 f145_L0 G lo a b am d f da c9 r146_159.2
 )
 )
 )
 )
 )
 )
 ):=(Ql G hG).trans (by kernel_rfl)
theorem f145_L0_eq (G:Qe) (hG:Qo G) (lo:Nat) (a b c d f i j:DV) (σ:Qa):f145_L0 G lo a b c d f i j σ =
 (binOp PP .sub 3 c b).bind fun z=>
 (binOp PP .leq 3 z (DV.p (PV.int IntKind.i64 (12)))).bind fun A=>
 Qh A
 (
 (Qd CC lo (DV.fn 154 []) [a,b,c,f] σ).bind fun r30_1=>
 some ((DV.tuple []),r30_1.2)
 )
 (
 (binOp PP .eql 3 d I0).bind fun I=>
 Qh I
 (
 (Qd CC lo (DV.fn 155 []) [a,b,c,f] σ).bind fun r37_2=>
 some ((DV.tuple []),r37_2.2)
 )
 (
 (unOp .not i).bind fun L=>
 Qh L
 (
 (Qd CC lo (DV.fn 156 []) [a,b,c,f] σ).bind fun r44_3=>
 (binOp PP .sub 3 d I1).bind fun t=>
 f145_J0 G lo a b c t f i j z c b z z A d I i L a b c f r44_3.1 d t r44_3.2
 )
 (
 f145_J0 G lo a b c d f i j z c b z z A d I i L Z Z Z Z Z Z Z σ
 )
 )
 ):=(f145_L0_eqN G hG lo a b c d f i j σ).trans (by simp only [f145_J0_eq,f145_J1_eq,f145_J2_eq])
theorem F145_eq (G:Qe) (lo:Nat) (a b c d f:DV) (σ:Qa):F145 G lo a b c d f σ =
 f145_L0 G lo a b c d f (DV.p (PV.bool true)) (DV.p (PV.bool true)) σ:=by kernel_rfl
theorem F145_call {lo:Nat} {a b c d f:DV} (h:F145 Qb lo a b c d f σ=some r):CC lo 145 [a,b,c,d,f] σ=some r:=
 callL_run Tryz.func145 (by decide +kernel) rfl (by decide +kernel) h
def c154_0:Code:=Qs Tryz.f154
def a154_0:Ann:=(pol 154).ann
def a154_2:Ann:=right a154_0
def a154_3:Ann:=left a154_2
def c154_4:Code:=fstC (fstC (sndC c154_0))
def a154_11:Ann:=left (right (left a154_3))
def a154_14:Ann:=right (left a154_11)
def a154_15:Ann:=left a154_14
def c154_16:Code:=fstC (fstC (sndC (fstC (fstC (sndC c154_4)))))
def c154_26:Code:=sndC (sndC c154_4)
def a154_26:Ann:=right (right (left a154_3))
def f154_L0 (a b c d k:DV) (σ:Qa):RS:=
 Qm G PP (pol 154) CC lo (.loop c154_4) a154_3 (a::b::c::d::Z::Z::Z::Z::k::zn 44 []) σ
 (Qf 0 a154_2 (finR PP Tryz.f154.results.toList))
def f154_L1 (a b c d k g:DV) (σ:Qa):RS:=
 Qm G PP (pol 154) CC lo (.loop c154_16) a154_15 (a::b::c::d::Z::Z::Z::Z::k::g::zn 43 []) σ
 (Qf 2 a154_14 (Qf 1 a154_11 (seqC G PP (pol 154) CC lo c154_26 a154_26 (QN G PP (pol 154) CC lo c154_4 a154_3 (Qf 0 a154_2 (finR PP Tryz.f154.results.toList))))))
def F154 (a b c d:DV) (σ:Qa):RS:=
 Qm G PP (pol 154) CC lo c154_0 a154_0 (a::b::c::d::zn 49 []) σ (finR PP Tryz.f154.results.toList)
theorem f154_L0_eq (G:Qe) (hG:Qo G) (lo:Nat) (a b c d k:DV) (σ:Qa):f154_L0 G lo a b c d k σ =
 (binOp PP .lss 3 k c).bind fun w=>
 Qh w
 (
 f154_L1 G lo a b c d k k σ
 )
 (
 some ((DV.tuple []),σ)
 ):=(Ql G hG).trans (by kernel_rfl)
theorem f154_L1_eq (G:Qe) (hG:Qo G) (lo:Nat) (a b c d k g:DV) (σ:Qa):f154_L1 G lo a b c d k g σ =
 (binOp PP .gtr 3 g b).bind fun Q=>
 G _ Q true (some (d,σ)) σ fun o σ1=>
 G _ Q true (some (a,σ1)) σ1 fun z σ2=>
 G _ Q true (some (g,σ2)) σ2 fun K σ3=>
 Gp G Q true (indexAddr PP 23 z K) σ3 fun A σ4=>
 Gp G Q true (load PP 69 A σ4) σ4 fun ac σ5=>
 G _ Q true (some (a,σ5)) σ5 fun U σ6=>
 G _ Q true (some (g,σ6)) σ6 fun au σ7=>
 Gp G Q true (binOp PP .sub 3 au I1) σ7 fun S σ8=>
 Gp G Q true (indexAddr PP 23 U S) σ8 fun aw σ9=>
 Gp G Q true (load PP 69 aw σ9) σ9 fun B σ10=>
 Gp G Q true (Qg CC o [ac,B] σ10) σ10 fun I σ11=>
 Gp G Q true (binOp PP .lss 3 I I0) σ11 fun ae σ12=>
 (Qt Q ae (DV.p (PV.bool false))).bind fun V=>
 Qh V
 (
 (binOp PP .sub 3 g I1).bind fun x=>
 (binOp PP .sub 3 g I1).bind fun P=>
 (indexAddr PP 23 a P).bind fun N=>
 (load PP 69 N σ12).bind fun t=>
 (indexAddr PP 23 a g).bind fun ak=>
 (load PP 69 ak σ12).bind fun ar=>
 (indexAddr PP 23 a g).bind fun az=>
 (store PP lo 69 az t σ12).bind fun σ13=>
 (indexAddr PP 23 a x).bind fun T=>
 (store PP lo 69 T ar σ13).bind fun σ14=>
 (binOp PP .sub 3 g I1).bind fun aj=>
 f154_L1 G lo a b c d k aj σ14
 )
 (
 (binOp PP .add 3 k I1).bind fun ah=>
 f154_L0 G lo a b c d ah σ12
 ):=(Ql G hG).trans (by kernel_rfl)
theorem F154_eq (G:Qe) (lo:Nat) (a b c d:DV) (σ:Qa):F154 G lo a b c d σ =
 (binOp PP .add 3 b I1).bind fun j=>
 f154_L0 G lo a b c d j σ:=by kernel_rfl
theorem F154_call {lo:Nat} {a b c d:DV} (h:F154 Qb lo a b c d σ=some r):CC lo 154 [a,b,c,d] σ=some r:=
 callL_run Tryz.func154 (by decide +kernel) rfl (by decide +kernel) h
def c155_0:Code:=Qs Tryz.f155
def a155_0:Ann:=(pol 155).ann
def a155_9:Ann:=right (left (right (right (right a155_0))))
def a155_10:Ann:=left a155_9
def c155_11:Code:=fstC (fstC (sndC (fstC (sndC (sndC (sndC c155_0))))))
def c155_21:Code:=sndC (sndC (sndC (sndC c155_0)))
def a155_21:Ann:=right (right (right (right a155_0)))
def a155_23:Ann:=right a155_21
def a155_24:Ann:=left a155_23
def c155_25:Code:=fstC (fstC (sndC c155_21))
def f155_L0 (a d k g i j:DV) (σ:Qa):RS:=
 Qm G PP (pol 155) CC lo (.loop c155_11) a155_10 (a::Z::Z::d::Z::Z::Z::Z::k::g::i::j::zn 48 []) σ
 (Qf 0 a155_9 (seqC G PP (pol 155) CC lo c155_21 a155_21 (finR PP Tryz.f155.results.toList)))
def f155_L1 (a d k g l:DV) (σ:Qa):RS:=
 Qm G PP (pol 155) CC lo (.loop c155_25) a155_24 (a::Z::Z::d::Z::Z::Z::Z::k::g::Z::Z::l::zn 47 []) σ
 (Qf 2 a155_23 (finR PP Tryz.f155.results.toList))
def F155 (a b c d:DV) (σ:Qa):RS:=
 Qm G PP (pol 155) CC lo c155_0 a155_0 (a::b::c::d::zn 56 []) σ (finR PP Tryz.f155.results.toList)
theorem f155_L0_eq (G:Qe) (hG:Qo G) (lo:Nat) (a d k g i j:DV) (σ:Qa):f155_L0 G lo a d k g i j σ =
 (binOp PP .geq 3 j I0).bind fun u=>
 Qh u
 (
 (Qd CC lo (DV.fn 164 []) [a,j,i,k,d] σ).bind fun r29_1=>
 (binOp PP .sub 3 j I1).bind fun z=>
 f155_L0 G lo a d k g i z r29_1.2
 )
 (
 (binOp PP .sub 3 i I1).bind fun B=>
 f155_L1 G lo a d k g B σ
 ):=(Ql G hG).trans (by kernel_rfl)
theorem f155_L1_eq (G:Qe) (hG:Qo G) (lo:Nat) (a d k g l:DV) (σ:Qa):f155_L1 G lo a d k g l σ =
 (binOp PP .geq 3 l I0).bind fun ae=>
 Qh ae
 (
 (binOp PP .add 3 k l).bind fun x=>
 (binOp PP .add 3 k l).bind fun N=>
 (indexAddr PP 23 a N).bind fun t=>
 (load PP 69 t σ).bind fun J=>
 (indexAddr PP 23 a k).bind fun ar=>
 (load PP 69 ar σ).bind fun az=>
 (indexAddr PP 23 a k).bind fun T=>
 (store PP lo 69 T J σ).bind fun σ2=>
 (indexAddr PP 23 a x).bind fun W=>
 (store PP lo 69 W az σ2).bind fun σ3=>
 (Qd CC lo (DV.fn 164 []) [a,g,l,k,d] σ3).bind fun r59_4=>
 (binOp PP .sub 3 l I1).bind fun ai=>
 f155_L1 G lo a d k g ai r59_4.2
 )
 (
 some ((DV.tuple []),σ)
 ):=(Ql G hG).trans (by kernel_rfl)
theorem F155_eq (G:Qe) (lo:Nat) (a b c d:DV) (σ:Qa):F155 G lo a b c d σ =
 (binOp PP .sub 3 c b).bind fun ah=>
 (binOp PP .sub 3 ah I1).bind fun af=>
 (binOp PP .quo 3 af (DV.p (PV.int IntKind.i64 (2)))).bind fun b8=>
 f155_L0 G lo a d b I0 ah b8 σ:=by kernel_rfl
theorem F155_call {lo:Nat} {a b c d:DV} (h:F155 Qb lo a b c d σ=some r):CC lo 155 [a,b,c,d] σ=some r:=
 callL_run Tryz.func155 (by decide +kernel) rfl (by decide +kernel) h
def c164_0:Code:=Qs Tryz.f164
def a164_0:Ann:=(pol 164).ann
def a164_2:Ann:=right a164_0
def a164_3:Ann:=left a164_2
def c164_4:Code:=fstC (fstC (sndC c164_0))
def a164_4:Ann:=left a164_3
def c164_19:Code:=sndC (sndC (sndC (fstC c164_4)))
def a164_19:Ann:=right (right (right (left a164_4)))
def f164_L0 (a c d f i:DV) (σ:Qa):RS:=
 Qm G PP (pol 164) CC lo (.loop c164_4) a164_3 (a::Z::c::d::f::zn 5 (i::zn 71 [])) σ
 (Qf 0 a164_2 (finR PP Tryz.f164.results.toList))
def f164_J0 (a c d f i j q w F ah R af b8 Q u o z K A ac U au S aw B I ae V ai aj aq Y L C x y:DV) (σ:Qa):RS:=
 (seqC G PP (pol 164) CC lo c164_19 a164_19 (Qf 1 a164_4 (QN G PP (pol 164) CC lo c164_4 a164_3 (Qf 0 a164_2 (finR PP Tryz.f164.results.toList))))) .normal (a::Z::c::d::f::zn 5 (i::j::Z::q::w::F::ah::R::af::b8::Q::u::o::z::K::A::ac::U::au::S::aw::B::I::ae::V::ai::aj::aq::Y::L::C::x::y::zn 39 [])) σ
def F164 (a b c d f:DV) (σ:Qa):RS:=
 Qm G PP (pol 164) CC lo c164_0 a164_0 (a::b::c::d::f::zn 77 []) σ (finR PP Tryz.f164.results.toList)
theorem f164_J0_eq (G:Qe) (lo:Nat) (a c d f i j q w F ah R af b8 Q u o z K A ac U au S aw B I ae V ai aj aq Y L C x y:DV) (σ:Qa):f164_J0 G lo a c d f i j q w F ah R af b8 Q u o z K A ac U au S aw B I ae V ai aj aq Y L C x y σ =
 (binOp PP .add 3 d i).bind fun J=>
 (indexAddr PP 23 a J).bind fun E=>
 (load PP 69 E σ).bind fun ak=>
 (binOp PP .add 3 d j).bind fun W=>
 (indexAddr PP 23 a W).bind fun aa=>
 (load PP 69 aa σ).bind fun b9=>
 (Qg CC f [ak,b9] σ).bind fun be=>
 (binOp PP .lss 3 be I0).bind fun bp=>
 (unOp .not bp).bind fun av=>
 Qh av
 (
 some ((DV.tuple []),σ)
 )
 (
 (binOp PP .add 3 d i).bind fun bm=>
 (binOp PP .add 3 d j).bind fun bg=>
 (binOp PP .add 3 d j).bind fun br=>
 (indexAddr PP 23 a br).bind fun ba=>
 (load PP 69 ba σ).bind fun cz=>
 (binOp PP .add 3 d i).bind fun ca=>
 (indexAddr PP 23 a ca).bind fun bq=>
 (load PP 69 bq σ).bind fun bz=>
 (indexAddr PP 23 a bm).bind fun bv=>
 (store PP lo 69 bv cz σ).bind fun σ17=>
 (indexAddr PP 23 a bg).bind fun c7=>
 (store PP lo 69 c7 bz σ17).bind fun σ18=>
 f164_L0 G lo a c d f j σ18
 ):=by kernel_rfl
theorem f164_L0_eqN (G:Qe) (hG:Qo G) (lo:Nat) (a c d f i:DV) (σ:Qa):f164_L0 G lo a c d f i σ =
 (binOp PP .mul 3 (DV.p (PV.int IntKind.i64 (2))) i).bind fun w=>
 (binOp PP .add 3 w I1).bind fun F=>
 (binOp PP .geq 3 F c).bind fun af=>
 Qh af
 (
 some ((DV.tuple []),σ)
 )
 (
 (binOp PP .add 3 F I1).bind fun Q=>
 (binOp PP .lss 3 Q c).bind fun o=>
 G _ o true (some (f,σ)) σ fun K σ1=>
 G _ o true (some (a,σ1)) σ1 fun A σ2=>
 G _ o true (some (d,σ2)) σ2 fun ac σ3=>
 G _ o true (some (F,σ3)) σ3 fun U σ4=>
 Gp G o true (binOp PP .add 3 ac U) σ4 fun au σ5=>
 Gp G o true (indexAddr PP 23 A au) σ5 fun S σ6=>
 Gp G o true (load PP 69 S σ6) σ6 fun aw σ7=>
 G _ o true (some (a,σ7)) σ7 fun B σ8=>
 G _ o true (some (d,σ8)) σ8 fun I σ9=>
 G _ o true (some (F,σ9)) σ9 fun ae σ10=>
 Gp G o true (binOp PP .add 3 I ae) σ10 fun V σ11=>
 Gp G o true (binOp PP .add 3 V I1) σ11 fun ai σ12=>
 Gp G o true (indexAddr PP 23 B ai) σ12 fun aj σ13=>
 Gp G o true (load PP 69 aj σ13) σ13 fun aq σ14=>
 Gp G o true (Qg CC K [aw,aq] σ14) σ14 fun Y σ15=>
 Gp G o true (binOp PP .lss 3 Y I0) σ15 fun L σ16=>
 (Qt o L (DV.p (PV.bool false))).bind fun C=>
 Qh C
 (
 (binOp PP .add 3 F I1).bind fun y=>
 (binOp PP .add 3 d i).bind fun J=>
 (indexAddr PP 23 a J).bind fun E=>
 (load PP 69 E σ16).bind fun ak=>
 (binOp PP .add 3 d y).bind fun W=>
 (indexAddr PP 23 a W).bind fun aa=>
 (load PP 69 aa σ16).bind fun b9=>
 (Qg CC f [ak,b9] σ16).bind fun be=>
 (binOp PP .lss 3 be I0).bind fun bp=>
 (unOp .not bp).bind fun av=>
 Qh av
 (
 some ((DV.tuple []),σ16)
 )
 (
 (binOp PP .add 3 d i).bind fun bm=>
 (binOp PP .add 3 d y).bind fun bg=>
 (binOp PP .add 3 d y).bind fun br=>
 (indexAddr PP 23 a br).bind fun ba=>
 (load PP 69 ba σ16).bind fun cz=>
 (binOp PP .add 3 d i).bind fun ca=>
 (indexAddr PP 23 a ca).bind fun bq=>
 (load PP 69 bq σ16).bind fun bz=>
 (indexAddr PP 23 a bm).bind fun bv=>
 (store PP lo 69 bv cz σ16).bind fun σ17=>
 (indexAddr PP 23 a bg).bind fun c7=>
 (store PP lo 69 c7 bz σ17).bind fun σ18=>
 f164_L0 G lo a c d f y σ18
 )
 )
 (
 (binOp PP .add 3 d i).bind fun J=>
 (indexAddr PP 23 a J).bind fun E=>
 (load PP 69 E σ16).bind fun ak=>
 (binOp PP .add 3 d F).bind fun W=>
 (indexAddr PP 23 a W).bind fun aa=>
 (load PP 69 aa σ16).bind fun b9=>
 (Qg CC f [ak,b9] σ16).bind fun be=>
 (binOp PP .lss 3 be I0).bind fun bp=>
 (unOp .not bp).bind fun av=>
 Qh av
 (
 some ((DV.tuple []),σ16)
 )
 (
 (binOp PP .add 3 d i).bind fun bm=>
 (binOp PP .add 3 d F).bind fun bg=>
 (binOp PP .add 3 d F).bind fun br=>
 (indexAddr PP 23 a br).bind fun ba=>
 (load PP 69 ba σ16).bind fun cz=>
 (binOp PP .add 3 d i).bind fun ca=>
 (indexAddr PP 23 a ca).bind fun bq=>
 (load PP 69 bq σ16).bind fun bz=>
 (indexAddr PP 23 a bm).bind fun bv=>
 (store PP lo 69 bv cz σ16).bind fun σ19=>
 (indexAddr PP 23 a bg).bind fun c7=>
 (store PP lo 69 c7 bz σ19).bind fun σ20=>
 f164_L0 G lo a c d f F σ20
 )
 )
 ):=(Ql G hG).trans (by kernel_rfl)
theorem f164_L0_eq (G:Qe) (hG:Qo G) (lo:Nat) (a c d f i:DV) (σ:Qa):f164_L0 G lo a c d f i σ =
 (binOp PP .mul 3 (DV.p (PV.int IntKind.i64 (2))) i).bind fun w=>
 (binOp PP .add 3 w I1).bind fun F=>
 (binOp PP .geq 3 F c).bind fun af=>
 Qh af
 (
 some ((DV.tuple []),σ)
 )
 (
 (binOp PP .add 3 F I1).bind fun Q=>
 (binOp PP .lss 3 Q c).bind fun o=>
 G _ o true (some (f,σ)) σ fun K σ1=>
 G _ o true (some (a,σ1)) σ1 fun A σ2=>
 G _ o true (some (d,σ2)) σ2 fun ac σ3=>
 G _ o true (some (F,σ3)) σ3 fun U σ4=>
 Gp G o true (binOp PP .add 3 ac U) σ4 fun au σ5=>
 Gp G o true (indexAddr PP 23 A au) σ5 fun S σ6=>
 Gp G o true (load PP 69 S σ6) σ6 fun aw σ7=>
 G _ o true (some (a,σ7)) σ7 fun B σ8=>
 G _ o true (some (d,σ8)) σ8 fun I σ9=>
 G _ o true (some (F,σ9)) σ9 fun ae σ10=>
 Gp G o true (binOp PP .add 3 I ae) σ10 fun V σ11=>
 Gp G o true (binOp PP .add 3 V I1) σ11 fun ai σ12=>
 Gp G o true (indexAddr PP 23 B ai) σ12 fun aj σ13=>
 Gp G o true (load PP 69 aj σ13) σ13 fun aq σ14=>
 Gp G o true (Qg CC K [aw,aq] σ14) σ14 fun Y σ15=>
 Gp G o true (binOp PP .lss 3 Y I0) σ15 fun L σ16=>
 (Qt o L (DV.p (PV.bool false))).bind fun C=>
 Qh C
 (
 (binOp PP .add 3 F I1).bind fun y=>
 f164_J0 G lo a c d f i y i w F F c af F Q c o o K A ac U au S aw B I ae V ai aj aq Y L C F y σ16
 )
 (
 f164_J0 G lo a c d f i F i w F F c af F Q c o o K A ac U au S aw B I ae V ai aj aq Y L C Z Z σ16
 )
 ):=(f164_L0_eqN G hG lo a c d f i σ).trans (by simp only [f164_J0_eq])
theorem F164_eq (G:Qe) (lo:Nat) (a b c d f:DV) (σ:Qa):F164 G lo a b c d f σ =
 f164_L0 G lo a c d f b σ:=by kernel_rfl
theorem F164_call {lo:Nat} {a b c d f:DV} (h:F164 Qb lo a b c d f σ=some r):CC lo 164 [a,b,c,d,f] σ=some r:=
 callL_run Tryz.func164 (by decide +kernel) rfl (by decide +kernel) h
def c156_0:Code:=Qs Tryz.f156
def a156_0:Ann:=(pol 156).ann
def a156_11:Ann:=right (right (right (left (right (right a156_0)))))
def a156_12:Ann:=left a156_11
def c156_13:Code:=fstC (fstC (sndC (sndC (sndC (fstC (sndC (sndC c156_0)))))))
def a156_20:Ann:=left (right (left a156_12))
def c156_29:Code:=sndC (sndC (fstC (fstC (sndC c156_13))))
def a156_29:Ann:=right (right (left a156_20))
def c156_30:Code:=sndC (sndC c156_13)
def a156_30:Ann:=right (right (left a156_12))
def f156_L0 (a b k g i j:DV) (σ:Qa):RS:=
 Qm G PP (pol 156) CC lo (.loop c156_13) a156_12 (a::b::zn 6 (k::g::i::j::zn 55 [])) σ
 (Qf 0 a156_11 (finR PP Tryz.f156.results.toList))
def f156_J0 (a b k g i j l au S aw B I ae V ai Y L C x y X P N t J E:DV) (σ:Qa):RS:=
 (seqC G PP (pol 156) CC lo c156_29 a156_29 (Qf 1 a156_20 (seqC G PP (pol 156) CC lo c156_30 a156_30 (QN G PP (pol 156) CC lo c156_13 a156_12 (Qf 0 a156_11 (finR PP Tryz.f156.results.toList)))))) .normal (a::b::zn 6 (k::g::i::j::l::zn 15 (au::S::aw::B::I::ae::V::ai::Z::Z::Y::L::C::x::y::X::P::N::t::J::E::zn 18 []))) σ
def F156 (a b c d:DV) (σ:Qa):RS:=
 Qm G PP (pol 156) CC lo c156_0 a156_0 (a::b::c::d::zn 63 []) σ (finR PP Tryz.f156.results.toList)
theorem f156_J0_eq (G:Qe) (lo:Nat) (a b k g i j l au S aw B I ae V ai Y L C x y X P N t J E:DV) (σ:Qa):f156_J0 G lo a b k g i j l au S aw B I ae V ai Y L C x y X P N t J E σ =
 (binOp PP .add 3 b l).bind fun aa=>
 (binOp PP .add 3 b l).bind fun av=>
 (indexAddr PP 23 a av).bind fun bc=>
 (load PP 69 bc σ).bind fun bb=>
 (indexAddr PP 23 a j).bind fun bi=>
 (load PP 69 bi σ).bind fun bj=>
 (indexAddr PP 23 a j).bind fun bu=>
 (store PP lo 69 bu bb σ).bind fun σ3=>
 (indexAddr PP 23 a aa).bind fun bg=>
 (store PP lo 69 bg bj σ3).bind fun σ4=>
 (binOp PP .add 3 j I1).bind fun aq=>
 f156_L0 G lo a b k g i aq σ4:=by kernel_rfl
theorem f156_L0_eqN (G:Qe) (hG:Qo G) (lo:Nat) (a b k g i j:DV) (σ:Qa):f156_L0 G lo a b k g i j σ =
 (binOp PP .quo 3 k (DV.p (PV.int IntKind.i64 (4)))).bind fun B=>
 (binOp PP .mul 3 B (DV.p (PV.int IntKind.i64 (2)))).bind fun I=>
 (binOp PP .add 3 b I).bind fun ae=>
 (binOp PP .add 3 ae I1).bind fun V=>
 (binOp PP .leq 3 j V).bind fun ai=>
 Qh ai
 (
 (Qd CC lo (DV.fn 148 []) [g] σ).bind fun r38_2=>
 (binOp PP .sub 165 i (DV.p (PV.int IntKind.u64 (1)))).bind fun C=>
 (binOp PP .and 165 r38_2.1 C).bind fun x=>
 (convert PP 165 3 x).bind fun y=>
 (binOp PP .geq 3 y k).bind fun N=>
 Qh N
 (
 (binOp PP .sub 3 y k).bind fun E=>
 (binOp PP .add 3 b E).bind fun aa=>
 (binOp PP .add 3 b E).bind fun av=>
 (indexAddr PP 23 a av).bind fun bc=>
 (load PP 69 bc r38_2.2).bind fun bb=>
 (indexAddr PP 23 a j).bind fun bi=>
 (load PP 69 bi r38_2.2).bind fun bj=>
 (indexAddr PP 23 a j).bind fun bu=>
 (store PP lo 69 bu bb r38_2.2).bind fun σ3=>
 (indexAddr PP 23 a aa).bind fun bg=>
 (store PP lo 69 bg bj σ3).bind fun σ4=>
 (binOp PP .add 3 j I1).bind fun aq=>
 f156_L0 G lo a b k g i aq σ4
 )
 (
 (binOp PP .add 3 b y).bind fun aa=>
 (binOp PP .add 3 b y).bind fun av=>
 (indexAddr PP 23 a av).bind fun bc=>
 (load PP 69 bc r38_2.2).bind fun bb=>
 (indexAddr PP 23 a j).bind fun bi=>
 (load PP 69 bi r38_2.2).bind fun bj=>
 (indexAddr PP 23 a j).bind fun bu=>
 (store PP lo 69 bu bb r38_2.2).bind fun σ5=>
 (indexAddr PP 23 a aa).bind fun bg=>
 (store PP lo 69 bg bj σ5).bind fun σ6=>
 (binOp PP .add 3 j I1).bind fun aq=>
 f156_L0 G lo a b k g i aq σ6
 )
 )
 (
 some ((DV.tuple []),σ)
 ):=(Ql G hG).trans (by kernel_rfl)
theorem f156_L0_eq (G:Qe) (hG:Qo G) (lo:Nat) (a b k g i j:DV) (σ:Qa):f156_L0 G lo a b k g i j σ =
 (binOp PP .quo 3 k (DV.p (PV.int IntKind.i64 (4)))).bind fun B=>
 (binOp PP .mul 3 B (DV.p (PV.int IntKind.i64 (2)))).bind fun I=>
 (binOp PP .add 3 b I).bind fun ae=>
 (binOp PP .add 3 ae I1).bind fun V=>
 (binOp PP .leq 3 j V).bind fun ai=>
 Qh ai
 (
 (Qd CC lo (DV.fn 148 []) [g] σ).bind fun r38_2=>
 (binOp PP .sub 165 i (DV.p (PV.int IntKind.u64 (1)))).bind fun C=>
 (binOp PP .and 165 r38_2.1 C).bind fun x=>
 (convert PP 165 3 x).bind fun y=>
 (binOp PP .geq 3 y k).bind fun N=>
 Qh N
 (
 (binOp PP .sub 3 y k).bind fun E=>
 f156_J0 G lo a b k g i j E j b k B I ae V ai r38_2.1 i C x y y k N y k E r38_2.2
 )
 (
 f156_J0 G lo a b k g i j y j b k B I ae V ai r38_2.1 i C x y y k N Z Z Z r38_2.2
 )
 )
 (
 some ((DV.tuple []),σ)
 ):=(f156_L0_eqN G hG lo a b k g i j σ).trans (by simp only [f156_J0_eq])
theorem F156_eq (G:Qe) (lo:Nat) (a b c d:DV) (σ:Qa):F156 G lo a b c d σ =
 (binOp PP .sub 3 c b).bind fun F=>
 (binOp PP .geq 3 F (DV.p (PV.int IntKind.i64 (8)))).bind fun R=>
 Qh R
 (
 (convert PP 3 185 F).bind fun b8=>
 (Qx PP 185).bind fun z9=>
 (store PP lo 185 (DV.ptr (List.length σ) 0) b8 (σ++[Row.mix z9])).bind fun σ1=>
 (Qg CC (DV.fn 147 []) [F] σ1).bind fun u=>
 (binOp PP .quo 3 F (DV.p (PV.int IntKind.i64 (4)))).bind fun K=>
 (binOp PP .mul 3 K (DV.p (PV.int IntKind.i64 (2)))).bind fun A=>
 (binOp PP .add 3 b A).bind fun ac=>
 (binOp PP .sub 3 ac I1).bind fun U=>
 f156_L0 G lo a b F (DV.ptr (List.length σ) 0) u U σ1
 )
 (
 some ((DV.tuple []),σ)
 ):=by kernel_rfl
theorem F156_call {lo:Nat} {a b c d:DV} (h:F156 Qb lo a b c d σ=some r):CC lo 156 [a,b,c,d] σ=some r:=
 callL_run Tryz.func156 (by decide +kernel) rfl (by decide +kernel) h
def c157_0:Code:=Qs Tryz.f157
def a157_0:Ann:=(pol 157).ann
def c157_26:Code:=sndC (fstC (sndC (fstC (sndC (sndC (sndC (sndC (sndC (sndC c157_0)))))))))
def a157_26:Ann:=right (left (right (left (right (right (right (right (right (right a157_0)))))))))
def c157_28:Code:=sndC (sndC (sndC (sndC (sndC (sndC (sndC c157_0))))))
def a157_28:Ann:=right (right (right (right (right (right (right a157_0))))))
def f157_J0_fr (a b c d k g i j l q w F ah R af b8 Q u o z K A ac U au S aw B I ae V ai aj aq Y L C x y X P N t J E:DV):Qp:=(a::b::c::d::Z::Z::Z::Z::k::g::i::j::l::q::w::F::ah::R::af::b8::Q::u::o::z::K::A::ac::U::au::S::aw::B::I::ae::V::ai::aj::aq::Y::L::C::x::y::X::P::N::t::J::E::zn 14 [])
def f157_J0 (a b c d k g i j l q w F ah R af b8 Q u o z K A ac U au S aw B I ae V ai aj aq Y L C x y X P N t J E:DV) (σ:Qa):RS:=
 (seqC G PP (pol 157) CC lo c157_26 a157_26 (seqC G PP (pol 157) CC lo c157_28 a157_28 (finR PP Tryz.f157.results.toList))) .normal (f157_J0_fr a b c d k g i j l q w F ah R af b8 Q u o z K A ac U au S aw B I ae V ai aj aq Y L C x y X P N t J E) σ
def f157_J1_fr (a b c d k g i j l q w F ah R af b8 Q u o z K A ac U au S aw B I ae V ai aj aq Y L C x y X P N t J E ak ar az T W aa:DV):Qp:=(a::b::c::d::Z::Z::Z::Z::k::g::i::j::l::q::w::F::ah::R::af::b8::Q::u::o::z::K::A::ac::U::au::S::aw::B::I::ae::V::ai::aj::aq::Y::L::C::x::y::X::P::N::t::J::E::ak::ar::az::T::W::aa::zn 8 [])
def f157_J1 (a b c d k g i j l q w F ah R af b8 Q u o z K A ac U au S aw B I ae V ai aj aq Y L C x y X P N t J E ak ar az T W aa:DV) (σ:Qa):RS:=
 (seqC G PP (pol 157) CC lo c157_28 a157_28 (finR PP Tryz.f157.results.toList)) .normal (f157_J1_fr a b c d k g i j l q w F ah R af b8 Q u o z K A ac U au S aw B I ae V ai aj aq Y L C x y X P N t J E ak ar az T W aa) σ
def F157 (a b c d:DV) (σ:Qa):RS:=
 Qm G PP (pol 157) CC lo c157_0 a157_0 (a::b::c::d::zn 59 []) σ (finR PP Tryz.f157.results.toList)
theorem f157_J0_gen (G:Qe) (lo:Nat) (N0:Qp->Qa->Option (DV×Qa)) (a b c d k g i j l q w F ah R af b8 Q u o z K A ac U au S aw B I ae V ai aj aq Y L C x y X P N t J E:DV) (σ:Qa):(seqC G PP (pol 157) CC lo c157_26 a157_26 (VL N0 (seqC G PP (pol 157) CC lo c157_28 a157_28 (finR PP Tryz.f157.results.toList)))) .normal (f157_J0_fr a b c d k g i j l q w F ah R af b8 Q u o z K A ac U au S aw B I ae V ai aj aq Y L C x y X P N t J E) σ =
 (Qd CC lo (DV.fn 166 []) [a,l,q,w,j,d] σ).bind fun r54_4=>
 N0 (f157_J1_fr a b c d k g i j l r54_4.1 w F ah R af b8 Q u o z K A ac U au S aw B I ae V ai aj aq Y L C x y X P N t J E a l q w d r54_4.1) r54_4.2:=by kernel_rfl
theorem f157_J0_eq (G:Qe) (lo:Nat) (a b c d k g i j l q w F ah R af b8 Q u o z K A ac U au S aw B I ae V ai aj aq Y L C x y X P N t J E:DV) (σ:Qa):f157_J0 G lo a b c d k g i j l q w F ah R af b8 Q u o z K A ac U au S aw B I ae V ai aj aq Y L C x y X P N t J E σ =
 (Qd CC lo (DV.fn 166 []) [a,l,q,w,j,d] σ).bind fun r54_4=>
 f157_J1 G lo a b c d k g i j l r54_4.1 w F ah R af b8 Q u o z K A ac U au S aw B I ae V ai aj aq Y L C x y X P N t J E a l q w d r54_4.1 r54_4.2:=by
 have h:=f157_J0_gen (N0:=(seqC G PP (pol 157) CC lo c157_28 a157_28 (finR PP Tryz.f157.results.toList)) .normal) G lo a b c d k g i j l q w F ah R af b8 Q u o z K A ac U au S aw B I ae V ai aj aq Y L C x y X P N t J E σ
 simp only [WG] at h
 exact h
theorem f157_J1_eq (G:Qe) (lo:Nat) (a b c d k g i j l q w F ah R af b8 Q u o z K A ac U au S aw B I ae V ai aj aq Y L C x y X P N t J E ak ar az T W aa:DV) (σ:Qa):f157_J1 G lo a b c d k g i j l q w F ah R af b8 Q u o z K A ac U au S aw B I ae V ai aj aq Y L C x y X P N t J E ak ar az T W aa σ =
 (load PP 3 j σ).bind fun b9=>
 (binOp PP .eql 3 b9 I0).bind fun av=>
 Qh av
 (
 some ((DV.tuple [q,I1]),σ)
 )
 (
 (binOp PP .eql 3 b9 (DV.p (PV.int IntKind.i64 (12)))).bind fun bh=>
 Qh bh
 (
 some ((DV.tuple [q,(DV.p (PV.int IntKind.i64 (2)))]),σ)
 )
 (
 some ((DV.tuple [q,I0]),σ)
 )
 ):=by kernel_rfl
theorem F157_eqN (G:Qe) (lo:Nat) (a b c d:DV) (σ:Qa):F157 G lo a b c d σ =
 (binOp PP .sub 3 c b).bind fun R=>
 (Qx PP 3).bind fun z11=>
 (binOp PP .quo 3 R (DV.p (PV.int IntKind.i64 (4)))).bind fun Q=>
 (binOp PP .mul 3 Q I1).bind fun u=>
 (binOp PP .add 3 b u).bind fun o=>
 (binOp PP .quo 3 R (DV.p (PV.int IntKind.i64 (4)))).bind fun A=>
 (binOp PP .mul 3 A (DV.p (PV.int IntKind.i64 (2)))).bind fun ac=>
 (binOp PP .add 3 b ac).bind fun U=>
 (binOp PP .quo 3 R (DV.p (PV.int IntKind.i64 (4)))).bind fun aw=>
 (binOp PP .mul 3 aw (DV.p (PV.int IntKind.i64 (3)))).bind fun B=>
 (binOp PP .add 3 b B).bind fun I=>
 (binOp PP .geq 3 R (DV.p (PV.int IntKind.i64 (8)))).bind fun V=>
 Qh V
 (
 (binOp PP .geq 3 R (DV.p (PV.int IntKind.i64 (50)))).bind fun aj=>
 Qh aj
 (
 (Qd CC lo (DV.fn 165 []) [a,o,(DV.ptr (List.length σ) 0),d] (σ++[Row.mix z11])).bind fun r40_1=>
 (Qd CC lo (DV.fn 165 []) [a,U,(DV.ptr (List.length σ) 0),d] r40_1.2).bind fun r44_2=>
 (Qd CC lo (DV.fn 165 []) [a,I,(DV.ptr (List.length σ) 0),d] r44_2.2).bind fun r48_3=>
 (Qd CC lo (DV.fn 166 []) [a,r40_1.1,r44_2.1,r48_3.1,(DV.ptr (List.length σ) 0),d] r48_3.2).bind fun r54_4=>
 (load PP 3 (DV.ptr (List.length σ) 0) r54_4.2).bind fun b9=>
 (binOp PP .eql 3 b9 I0).bind fun av=>
 Qh av
 (
 some ((DV.tuple [r54_4.1,I1]),r54_4.2)
 )
 (
 (binOp PP .eql 3 b9 (DV.p (PV.int IntKind.i64 (12)))).bind fun bh=>
 Qh bh
 (
 some ((DV.tuple [r54_4.1,(DV.p (PV.int IntKind.i64 (2)))]),r54_4.2)
 )
 (
 some ((DV.tuple [r54_4.1,I0]),r54_4.2)
 )
 )
 )
 (
 (Qd CC lo (DV.fn 166 []) [a,o,U,I,(DV.ptr (List.length σ) 0),d] (σ++[Row.mix z11])).bind fun r54_5=>
 (load PP 3 (DV.ptr (List.length σ) 0) r54_5.2).bind fun b9=>
 (binOp PP .eql 3 b9 I0).bind fun av=>
 Qh av
 (
 some ((DV.tuple [r54_5.1,I1]),r54_5.2)
 )
 (
 (binOp PP .eql 3 b9 (DV.p (PV.int IntKind.i64 (12)))).bind fun bh=>
 Qh bh
 (
 some ((DV.tuple [r54_5.1,(DV.p (PV.int IntKind.i64 (2)))]),r54_5.2)
 )
 (
 some ((DV.tuple [r54_5.1,I0]),r54_5.2)
 )
 )
 )
 )
 (
 (load PP 3 (DV.ptr (List.length σ) 0) (σ++[Row.mix z11])).bind fun b9=>
 (binOp PP .eql 3 b9 I0).bind fun av=>
 Qh av
 (
 some ((DV.tuple [U,I1]),(σ++[Row.mix z11]))
 )
 (
 (binOp PP .eql 3 b9 (DV.p (PV.int IntKind.i64 (12)))).bind fun bh=>
 Qh bh
 (
 some ((DV.tuple [U,(DV.p (PV.int IntKind.i64 (2)))]),(σ++[Row.mix z11]))
 )
 (
 some ((DV.tuple [U,I0]),(σ++[Row.mix z11]))
 )
 )
 ):=by kernel_rfl
theorem F157_eq (G:Qe) (lo:Nat) (a b c d:DV) (σ:Qa):F157 G lo a b c d σ =
 (binOp PP .sub 3 c b).bind fun R=>
 (Qx PP 3).bind fun z11=>
 (binOp PP .quo 3 R (DV.p (PV.int IntKind.i64 (4)))).bind fun Q=>
 (binOp PP .mul 3 Q I1).bind fun u=>
 (binOp PP .add 3 b u).bind fun o=>
 (binOp PP .quo 3 R (DV.p (PV.int IntKind.i64 (4)))).bind fun A=>
 (binOp PP .mul 3 A (DV.p (PV.int IntKind.i64 (2)))).bind fun ac=>
 (binOp PP .add 3 b ac).bind fun U=>
 (binOp PP .quo 3 R (DV.p (PV.int IntKind.i64 (4)))).bind fun aw=>
 (binOp PP .mul 3 aw (DV.p (PV.int IntKind.i64 (3)))).bind fun B=>
 (binOp PP .add 3 b B).bind fun I=>
 (binOp PP .geq 3 R (DV.p (PV.int IntKind.i64 (8)))).bind fun V=>
 Qh V
 (
 (binOp PP .geq 3 R (DV.p (PV.int IntKind.i64 (50)))).bind fun aj=>
 Qh aj
 (
 (Qd CC lo (DV.fn 165 []) [a,o,(DV.ptr (List.length σ) 0),d] (σ++[Row.mix z11])).bind fun r40_1=>
 (Qd CC lo (DV.fn 165 []) [a,U,(DV.ptr (List.length σ) 0),d] r40_1.2).bind fun r44_2=>
 (Qd CC lo (DV.fn 165 []) [a,I,(DV.ptr (List.length σ) 0),d] r44_2.2).bind fun r48_3=>
 f157_J0 G lo a b c d I0 I0 R (DV.ptr (List.length σ) 0) r40_1.1 r44_2.1 r48_3.1 c b R b R Q u o b R A ac U b R aw B I R V R aj a o d r40_1.1 a U d r44_2.1 a I d r48_3.1 r48_3.2
 )
 (
 f157_J0 G lo a b c d I0 I0 R (DV.ptr (List.length σ) 0) o U I c b R b R Q u o b R A ac U b R aw B I R V R aj Z Z Z Z Z Z Z Z Z Z Z Z (σ++[Row.mix z11])
 )
 )
 (
 f157_J1 G lo a b c d I0 I0 R (DV.ptr (List.length σ) 0) o U I c b R b R Q u o b R A ac U b R aw B I R V Z Z Z Z Z Z Z Z Z Z Z Z Z Z Z Z Z Z Z Z (σ++[Row.mix z11])
 ):=(F157_eqN G lo a b c d σ).trans (by simp only [f157_J0_eq,f157_J1_eq])
theorem F157_call {lo:Nat} {a b c d:DV} (h:F157 Qb lo a b c d σ=some r):CC lo 157 [a,b,c,d] σ=some r:=
 callL_run Tryz.func157 (by decide +kernel) rfl (by decide +kernel) h
def c165_0:Code:=Qs Tryz.f165
def a165_0:Ann:=(pol 165).ann
def F165 (a b c d:DV) (σ:Qa):RS:=
 Qm G PP (pol 165) CC lo c165_0 a165_0 (a::b::c::d::zn 14 []) σ (finR PP Tryz.f165.results.toList)
theorem F165_eq (G:Qe) (lo:Nat) (a b c d:DV) (σ:Qa):F165 G lo a b c d σ =
 (binOp PP .sub 3 b I1).bind fun j=>
 (binOp PP .add 3 b I1).bind fun w=>
 (Qd CC lo (DV.fn 166 []) [a,j,b,w,c,d] σ).bind fun r17_1=>
 some (r17_1.1,r17_1.2):=by kernel_rfl
theorem F165_call {lo:Nat} {a b c d:DV} (h:F165 Qb lo a b c d σ=some r):CC lo 165 [a,b,c,d] σ=some r:=
 callL_run Tryz.func165 (by decide +kernel) rfl (by decide +kernel) h
def c166_0:Code:=Qs Tryz.f166
def a166_0:Ann:=(pol 166).ann
def F166 (a b c d f m:DV) (σ:Qa):RS:=
 Qm G PP (pol 166) CC lo c166_0 a166_0 (a::b::c::d::f::m::zn 35 []) σ (finR PP Tryz.f166.results.toList)
theorem F166_eq (G:Qe) (lo:Nat) (a b c d f m:DV) (σ:Qa):F166 G lo a b c d f m σ =
 (Qd CC lo (DV.fn 167 []) [a,b,c,f,m] σ).bind fun r19_1=>
 (Qj r19_1.1 0).bind fun Q=>
 (Qj r19_1.1 1).bind fun u=>
 (Qd CC lo (DV.fn 167 []) [a,u,d,f,m] r19_1.2).bind fun r28_2=>
 (Qj r28_2.1 0).bind fun S=>
 (Qj r28_2.1 1).bind fun aw=>
 (Qd CC lo (DV.fn 167 []) [a,Q,S,f,m] r28_2.2).bind fun r37_3=>
 (Qj r37_3.1 0).bind fun Y=>
 (Qj r37_3.1 1).bind fun L=>
 some (L,r37_3.2):=by kernel_rfl
theorem F166_call {lo:Nat} {a b c d f m:DV} (h:F166 Qb lo a b c d f m σ=some r):CC lo 166 [a,b,c,d,f,m] σ=some r:=
 callL_run Tryz.func166 (by decide +kernel) rfl (by decide +kernel) h
def c167_0:Code:=Qs Tryz.f167
def a167_0:Ann:=(pol 167).ann
def F167 (a b c d f:DV) (σ:Qa):RS:=
 Qm G PP (pol 167) CC lo c167_0 a167_0 (a::b::c::d::f::zn 27 []) σ (finR PP Tryz.f167.results.toList)
theorem F167_eq (G:Qe) (lo:Nat) (a b c d f:DV) (σ:Qa):F167 G lo a b c d f σ =
 (indexAddr PP 23 a c).bind fun F=>
 (load PP 69 F σ).bind fun ah=>
 (indexAddr PP 23 a b).bind fun b8=>
 (load PP 69 b8 σ).bind fun Q=>
 (Qg CC f [ah,Q] σ).bind fun u=>
 (binOp PP .lss 3 u I0).bind fun o=>
 Qh o
 (
 (QY d).bind fun K=>
 (load PP 3 K σ).bind fun A=>
 (binOp PP .add 3 A I1).bind fun ac=>
 (QY d).bind fun U=>
 (store PP lo 3 U ac σ).bind fun σ1=>
 some ((DV.tuple [c,b]),σ1)
 )
 (
 some ((DV.tuple [b,c]),σ)
 ):=by kernel_rfl
theorem F167_call {lo:Nat} {a b c d f:DV} (h:F167 Qb lo a b c d f σ=some r):CC lo 167 [a,b,c,d,f] σ=some r:=
 callL_run Tryz.func167 (by decide +kernel) rfl (by decide +kernel) h
def c158_0:Code:=Qs Tryz.f158
def a158_0:Ann:=(pol 158).ann
def a158_4:Ann:=right (right a158_0)
def a158_5:Ann:=left a158_4
def c158_6:Code:=fstC (fstC (sndC (sndC c158_0)))
def f158_L0 (a k g:DV) (σ:Qa):RS:=
 Qm G PP (pol 158) CC lo (.loop c158_6) a158_5 (a::zn 7 (k::g::zn 24 [])) σ
 (Qf 0 a158_4 (finR PP Tryz.f158.results.toList))
def F158 (a b c d:DV) (σ:Qa):RS:=
 Qm G PP (pol 158) CC lo c158_0 a158_0 (a::b::c::d::zn 30 []) σ (finR PP Tryz.f158.results.toList)
theorem f158_L0_eq (G:Qe) (hG:Qo G) (lo:Nat) (a k g:DV) (σ:Qa):f158_L0 G lo a k g σ =
 (binOp PP .lss 3 k g).bind fun F=>
 Qh F
 (
 (indexAddr PP 23 a g).bind fun o=>
 (load PP 69 o σ).bind fun z=>
 (indexAddr PP 23 a k).bind fun ac=>
 (load PP 69 ac σ).bind fun U=>
 (indexAddr PP 23 a k).bind fun au=>
 (store PP lo 69 au z σ).bind fun σ1=>
 (indexAddr PP 23 a g).bind fun S=>
 (store PP lo 69 S U σ1).bind fun σ2=>
 (binOp PP .add 3 k I1).bind fun B=>
 (binOp PP .sub 3 g I1).bind fun ae=>
 f158_L0 G lo a B ae σ2
 )
 (
 some ((DV.tuple []),σ)
 ):=(Ql G hG).trans (by kernel_rfl)
theorem F158_eq (G:Qe) (lo:Nat) (a b c d:DV) (σ:Qa):F158 G lo a b c d σ =
 (binOp PP .sub 3 c I1).bind fun l=>
 f158_L0 G lo a b l σ:=by kernel_rfl
theorem F158_call {lo:Nat} {a b c d:DV} (h:F158 Qb lo a b c d σ=some r):CC lo 158 [a,b,c,d] σ=some r:=
 callL_run Tryz.func158 (by decide +kernel) rfl (by decide +kernel) h
def c159_0:Code:=Qs Tryz.f159
def a159_0:Ann:=(pol 159).ann
def VP:Ann:=right (left (right (right a159_0)))
def VF:Ann:=left VP
def Vp:Code:=fstC (fstC (sndC (fstC (sndC (sndC c159_0)))))
def WK:Ann:=left (right (left VF))
def a159_18:Ann:=left (left WK)
def a159_19:Ann:=left a159_18
def c159_20:Code:=fstC (fstC (fstC (fstC (fstC (sndC Vp)))))
def c159_28:Code:=sndC (fstC (fstC (sndC Vp)))
def a159_28:Ann:=right (left WK)
def a159_52:Ann:=right (left (right (left (right (right (right a159_28))))))
def a159_53:Ann:=left a159_52
def c159_54:Code:=fstC (fstC (sndC (fstC (sndC (fstC (sndC (sndC (sndC c159_28))))))))
def c159_71:Code:=sndC (sndC (sndC (sndC c159_28)))
def a159_71:Ann:=right (right (right (right a159_28)))
def a159_76:Ann:=right (left (right a159_71))
def a159_77:Ann:=left a159_76
def c159_78:Code:=fstC (fstC (sndC (fstC (sndC c159_71))))
def Vo:Code:=sndC (sndC Vp)
def Vt:Ann:=right (right (left VF))
def WX:Code:=sndC (sndC (sndC c159_0))
def Va:Ann:=right (right (right a159_0))
def f159_L0 (a b c d g i:DV) (σ:Qa):RS:=
 Qm G PP (pol 159) CC lo (.loop Vp) VF (a::b::c::d::zn 5 (g::i::zn 130 [])) σ
 (Qf 0 VP (seqC G PP (pol 159) CC lo WX Va (finR PP Tryz.f159.results.toList)))
def f159_L1 (a b c d g i:DV) (σ:Qa):RS:=
 Qm G PP (pol 159) CC lo (.loop c159_20) a159_19 (a::b::c::d::zn 5 (g::i::zn 130 [])) σ
 (Qf 2 a159_18 (seqC G PP (pol 159) CC lo c159_28 a159_28 (Qf 1 WK (seqC G PP (pol 159) CC lo Vo Vt (QN G PP (pol 159) CC lo Vp VF (Qf 0 VP (seqC G PP (pol 159) CC lo WX Va (finR PP Tryz.f159.results.toList))))))))
def f159_L2 (a b c d g i j:DV) (σ:Qa):RS:=
 Qm G PP (pol 159) CC lo (.loop c159_54) a159_53 (a::b::c::d::zn 5 (g::i::j::zn 129 [])) σ
 (Qf 4 a159_52 (seqC G PP (pol 159) CC lo c159_71 a159_71 (Qf 1 WK (seqC G PP (pol 159) CC lo Vo Vt (QN G PP (pol 159) CC lo Vp VF (Qf 0 VP (seqC G PP (pol 159) CC lo WX Va (finR PP Tryz.f159.results.toList))))))))
def f159_J0_fr (a b c d g i j L C x y X P N t J E ak ar az T W aa b9 be bp av bc bb bh bm bi bj bu bg bf cm dc br ba cz cc M ck ca bq bz bv c7 cw n cr bk bt bn bw cn ch co ct ci ce cb cj c8 cd dh df bl:DV):Qp:=(a::b::c::d::zn 5 (g::i::j::zn 27 (L::C::x::y::X::P::N::t::J::E::ak::ar::az::T::W::aa::b9::be::bp::av::bc::bb::bh::bm::bi::bj::bu::bg::bf::cm::dc::br::ba::cz::cc::M::ck::ca::bq::bz::bv::c7::cw::n::cr::bk::bt::bn::bw::cn::ch::co::ct::ci::ce::cb::cj::c8::cd::dh::df::bl::zn 40 [])))
def f159_J0 (a b c d g i j L C x y X P N t J E ak ar az T W aa b9 be bp av bc bb bh bm bi bj bu bg bf cm dc br ba cz cc M ck ca bq bz bv c7 cw n cr bk bt bn bw cn ch co ct ci ce cb cj c8 cd dh df bl:DV) (σ:Qa):RS:=
 (seqC G PP (pol 159) CC lo c159_71 a159_71 (Qf 1 WK (seqC G PP (pol 159) CC lo Vo Vt (QN G PP (pol 159) CC lo Vp VF (Qf 0 VP (seqC G PP (pol 159) CC lo WX Va (finR PP Tryz.f159.results.toList))))))) .normal (f159_J0_fr a b c d g i j L C x y X P N t J E ak ar az T W aa b9 be bp av bc bb bh bm bi bj bu bg bf cm dc br ba cz cc M ck ca bq bz bv c7 cw n cr bk bt bn bw cn ch co ct ci ce cb cj c8 cd dh df bl) σ
def f159_L3 (a b c d g i l:DV) (σ:Qa):RS:=
 Qm G PP (pol 159) CC lo (.loop c159_78) a159_77 (a::b::c::d::zn 5 (g::i::Z::l::zn 128 [])) σ
 (Qf 6 a159_76 (Qf 1 WK (seqC G PP (pol 159) CC lo Vo Vt (QN G PP (pol 159) CC lo Vp VF (Qf 0 VP (seqC G PP (pol 159) CC lo WX Va (finR PP Tryz.f159.results.toList)))))))
def f159_J1_fr (a b c d g i j l L C x y X P N t J E ak ar az T W aa b9 be bp av bc bb bh bm bi bj bu bg bf cm dc br ba cz cc M ck ca bq bz bv c7 cw n cr bk bt bn bw cn ch co ct ci ce cb cj c8 cd dh df bl dl ei dt dz dm ej dk dj ea dd dx am c9 ek du di cp eu ef cg ew cq dq ez cu ee f5 db de dw f6 eq eg eh f0 dg en dy da dr:DV):Qp:=(a::b::c::d::zn 5 (g::i::j::l::zn 26 ([L,C,x,y,X,P,N,t,J,E,ak,ar,az,T,W,aa,b9,be,bp,av,bc,bb,bh,bm,bi,bj,bu,bg,bf,cm,dc,br,ba,cz,cc,M,ck,ca,bq,bz,bv,c7,cw,n,cr,bk,bt,bn,bw,cn,ch,co,ct,ci,ce,cb,cj,c8,cd,dh,df,bl,dl,ei,dt,dz,dm,ej,dk,dj,ea,dd,dx,am,c9,ek,du,di,cp,eu,ef,cg,ew,cq,dq,ez,cu,ee,f5,db,de,dw,f6,eq,eg,eh,f0,dg,en,dy,da,dr])))
def f159_J1 (a b c d g i j l L C x y X P N t J E ak ar az T W aa b9 be bp av bc bb bh bm bi bj bu bg bf cm dc br ba cz cc M ck ca bq bz bv c7 cw n cr bk bt bn bw cn ch co ct ci ce cb cj c8 cd dh df bl dl ei dt dz dm ej dk dj ea dd dx am c9 ek du di cp eu ef cg ew cq dq ez cu ee f5 db de dw f6 eq eg eh f0 dg en dy da dr:DV) (σ:Qa):RS:=
 (Qf 1 WK (seqC G PP (pol 159) CC lo Vo Vt (QN G PP (pol 159) CC lo Vp VF (Qf 0 VP (seqC G PP (pol 159) CC lo WX Va (finR PP Tryz.f159.results.toList)))))) .normal (f159_J1_fr a b c d g i j l L C x y X P N t J E ak ar az T W aa b9 be bp av bc bb bh bm bi bj bu bg bf cm dc br ba cz cc M ck ca bq bz bv c7 cw n cr bk bt bn bw cn ch co ct ci ce cb cj c8 cd dh df bl dl ei dt dz dm ej dk dj ea dd dx am c9 ek du di cp eu ef cg ew cq dq ez cu ee f5 db de dw f6 eq eg eh f0 dg en dy da dr) σ
def F159 (a b c d:DV) (σ:Qa):RS:=
 Qm G PP (pol 159) CC lo c159_0 a159_0 (a::b::c::d::zn 137 []) σ (finR PP Tryz.f159.results.toList)
theorem f159_L0_eq (G:Qe) (hG:Qo G) (lo:Nat) (a b c d g i:DV) (σ:Qa):f159_L0 G lo a b c d g i σ =
 (binOp PP .lss 3 i (DV.p (PV.int IntKind.i64 (5)))).bind fun ah=>
 Qh ah
 (
 f159_L1 G lo a b c d g i σ
 )
 (
 some ((DV.p (PV.bool false)),σ)
 ):=(Ql G hG).trans (by kernel_rfl)
theorem f159_L1_eq (G:Qe) (hG:Qo G) (lo:Nat) (a b c d g i:DV) (σ:Qa):f159_L1 G lo a b c d g i σ =
 (binOp PP .lss 3 g c).bind fun u=>
 G _ u true (some (d,σ)) σ fun z σ1=>
 G _ u true (some (a,σ1)) σ1 fun K σ2=>
 G _ u true (some (g,σ2)) σ2 fun A σ3=>
 Gp G u true (indexAddr PP 23 K A) σ3 fun ac σ4=>
 Gp G u true (load PP 69 ac σ4) σ4 fun U σ5=>
 G _ u true (some (a,σ5)) σ5 fun au σ6=>
 G _ u true (some (g,σ6)) σ6 fun S σ7=>
 Gp G u true (binOp PP .sub 3 S I1) σ7 fun aw σ8=>
 Gp G u true (indexAddr PP 23 au aw) σ8 fun B σ9=>
 Gp G u true (load PP 69 B σ9) σ9 fun I σ10=>
 Gp G u true (Qg CC z [U,I] σ10) σ10 fun ae σ11=>
 Gp G u true (binOp PP .lss 3 ae I0) σ11 fun V σ12=>
 Gp G u true (unOp .not V) σ12 fun ai σ13=>
 (Qt u ai (DV.p (PV.bool false))).bind fun aj=>
 Qh aj
 (
 (binOp PP .add 3 g I1).bind fun Y=>
 f159_L1 G lo a b c d Y i σ13
 )
 (
 (binOp PP .eql 3 g c).bind fun x=>
 Qh x
 (
 some ((DV.p (PV.bool true)),σ13)
 )
 (
 (binOp PP .sub 3 c b).bind fun P=>
 (binOp PP .lss 3 P (DV.p (PV.int IntKind.i64 (50)))).bind fun N=>
 Qh N
 (
 some ((DV.p (PV.bool false)),σ13)
 )
 (
 (binOp PP .sub 3 g I1).bind fun ar=>
 (binOp PP .sub 3 g I1).bind fun W=>
 (indexAddr PP 23 a W).bind fun aa=>
 (load PP 69 aa σ13).bind fun b9=>
 (indexAddr PP 23 a g).bind fun av=>
 (load PP 69 av σ13).bind fun bc=>
 (indexAddr PP 23 a g).bind fun bb=>
 (store PP lo 69 bb b9 σ13).bind fun σ14=>
 (indexAddr PP 23 a ar).bind fun bh=>
 (store PP lo 69 bh bc σ14).bind fun σ15=>
 (binOp PP .sub 3 g b).bind fun bj=>
 (binOp PP .geq 3 bj (DV.p (PV.int IntKind.i64 (2)))).bind fun bu=>
 Qh bu
 (
 (binOp PP .sub 3 g I1).bind fun bf=>
 f159_L2 G lo a b c d g i bf σ15
 )
 (
 f159_J0 G lo a b c d g i Z g c x c b P N a g a g ar a g W aa b9 a g av bc bb bh g b bj bu Z Z Z Z Z Z Z Z Z Z Z Z Z Z Z Z Z Z Z Z Z Z Z Z Z Z Z Z Z Z Z Z Z Z Z σ15
 )
 )
 )
 ):=(Ql G hG).trans (by kernel_rfl)
theorem f159_L2_gen (G:Qe) (hG:Qo G) (lo:Nat) (N0:Qp->Qa->Option (DV×Qa)) (a b c d g i j:DV) (σ:Qa):Qm G PP (pol 159) CC lo (.loop c159_54) a159_53 (a::b::c::d::zn 5 (g::i::j::zn 129 [])) σ
 (Qf 4 a159_52 (VL N0 (seqC G PP (pol 159) CC lo c159_71 a159_71 (Qf 1 WK (seqC G PP (pol 159) CC lo Vo Vt (QN G PP (pol 159) CC lo Vp VF (Qf 0 VP (seqC G PP (pol 159) CC lo WX Va (finR PP Tryz.f159.results.toList))))))))) =
 (binOp PP .geq 3 j I1).bind fun dc=>
 Qh dc
 (
 (indexAddr PP 23 a j).bind fun ck=>
 (load PP 69 ck σ).bind fun ca=>
 (binOp PP .sub 3 j I1).bind fun bv=>
 (indexAddr PP 23 a bv).bind fun c7=>
 (load PP 69 c7 σ).bind fun cw=>
 (Qg CC d [ca,cw] σ).bind fun n=>
 (binOp PP .lss 3 n I0).bind fun cr=>
 (unOp .not cr).bind fun bk=>
 Qh bk
 (
 N0 (f159_J0_fr a b c d g i Z Z Z Z Z Z Z Z Z Z Z Z Z Z Z Z Z Z Z Z Z Z Z Z Z Z Z Z Z Z Z Z Z Z Z Z Z Z Z Z Z Z Z Z Z Z Z Z Z Z Z Z Z Z Z Z Z Z Z Z Z Z Z) σ
 )
 (
 (binOp PP .sub 3 j I1).bind fun ch=>
 (binOp PP .sub 3 j I1).bind fun ci=>
 (indexAddr PP 23 a ci).bind fun ce=>
 (load PP 69 ce σ).bind fun cb=>
 (indexAddr PP 23 a j).bind fun cd=>
 (load PP 69 cd σ).bind fun dh=>
 (indexAddr PP 23 a j).bind fun df=>
 (store PP lo 69 df cb σ).bind fun σ18=>
 (indexAddr PP 23 a ch).bind fun bl=>
 (store PP lo 69 bl dh σ18).bind fun σ19=>
 (binOp PP .sub 3 j I1).bind fun ba=>
 Qm G PP (pol 159) CC lo (.loop c159_54) a159_53 (a::b::c::d::zn 5 (g::i::ba::zn 129 [])) σ19 (Qf 4 a159_52 (VL N0 (seqC G PP (pol 159) CC lo c159_71 a159_71 (Qf 1 WK (seqC G PP (pol 159) CC lo Vo Vt (QN G PP (pol 159) CC lo Vp VF (Qf 0 VP (seqC G PP (pol 159) CC lo WX Va (finR PP Tryz.f159.results.toList)))))))))
 )
 )
 (
 N0 (f159_J0_fr a b c d g i Z Z Z Z Z Z Z Z Z Z Z Z Z Z Z Z Z Z Z Z Z Z Z Z Z Z Z Z Z Z Z Z Z Z Z Z Z Z Z Z Z Z Z Z Z Z Z Z Z Z Z Z Z Z Z Z Z Z Z Z Z Z Z) σ
 ):=(Ql G hG).trans (by kernel_rfl)
theorem f159_L2_eq (G:Qe) (hG:Qo G) (lo:Nat) (a b c d g i j:DV) (σ:Qa):f159_L2 G lo a b c d g i j σ =
 (binOp PP .geq 3 j I1).bind fun dc=>
 Qh dc
 (
 (indexAddr PP 23 a j).bind fun ck=>
 (load PP 69 ck σ).bind fun ca=>
 (binOp PP .sub 3 j I1).bind fun bv=>
 (indexAddr PP 23 a bv).bind fun c7=>
 (load PP 69 c7 σ).bind fun cw=>
 (Qg CC d [ca,cw] σ).bind fun n=>
 (binOp PP .lss 3 n I0).bind fun cr=>
 (unOp .not cr).bind fun bk=>
 Qh bk
 (
 f159_J0 G lo a b c d g i Z Z Z Z Z Z Z Z Z Z Z Z Z Z Z Z Z Z Z Z Z Z Z Z Z Z Z Z Z Z Z Z Z Z Z Z Z Z Z Z Z Z Z Z Z Z Z Z Z Z Z Z Z Z Z Z Z Z Z Z Z Z Z σ
 )
 (
 (binOp PP .sub 3 j I1).bind fun ch=>
 (binOp PP .sub 3 j I1).bind fun ci=>
 (indexAddr PP 23 a ci).bind fun ce=>
 (load PP 69 ce σ).bind fun cb=>
 (indexAddr PP 23 a j).bind fun cd=>
 (load PP 69 cd σ).bind fun dh=>
 (indexAddr PP 23 a j).bind fun df=>
 (store PP lo 69 df cb σ).bind fun σ18=>
 (indexAddr PP 23 a ch).bind fun bl=>
 (store PP lo 69 bl dh σ18).bind fun σ19=>
 (binOp PP .sub 3 j I1).bind fun ba=>
 f159_L2 G lo a b c d g i ba σ19
 )
 )
 (
 f159_J0 G lo a b c d g i Z Z Z Z Z Z Z Z Z Z Z Z Z Z Z Z Z Z Z Z Z Z Z Z Z Z Z Z Z Z Z Z Z Z Z Z Z Z Z Z Z Z Z Z Z Z Z Z Z Z Z Z Z Z Z Z Z Z Z Z Z Z Z σ
 ):=by
 have h:=f159_L2_gen (N0:=(seqC G PP (pol 159) CC lo c159_71 a159_71 (Qf 1 WK (seqC G PP (pol 159) CC lo Vo Vt (QN G PP (pol 159) CC lo Vp VF (Qf 0 VP (seqC G PP (pol 159) CC lo WX Va (finR PP Tryz.f159.results.toList))))))) .normal) G hG lo a b c d g i j σ
 simp only [WG] at h
 exact h
theorem f159_J0_eq (G:Qe) (lo:Nat) (a b c d g i j L C x y X P N t J E ak ar az T W aa b9 be bp av bc bb bh bm bi bj bu bg bf cm dc br ba cz cc M ck ca bq bz bv c7 cw n cr bk bt bn bw cn ch co ct ci ce cb cj c8 cd dh df bl:DV) (σ:Qa):f159_J0 G lo a b c d g i j L C x y X P N t J E ak ar az T W aa b9 be bp av bc bb bh bm bi bj bu bg bf cm dc br ba cz cc M ck ca bq bz bv c7 cw n cr bk bt bn bw cn ch co ct ci ce cb cj c8 cd dh df bl σ =
 (binOp PP .sub 3 c g).bind fun dt=>
 (binOp PP .geq 3 dt (DV.p (PV.int IntKind.i64 (2)))).bind fun dz=>
 Qh dz
 (
 (binOp PP .add 3 g I1).bind fun ej=>
 f159_L3 G lo a b c d g i ej σ
 )
 (
 f159_J1 G lo a b c d g i j Z L C x y X P N t J E ak ar az T W aa b9 be bp av bc bb bh bm bi bj bu bg bf cm dc br ba cz cc M ck ca bq bz bv c7 cw n cr bk bt bn bw cn ch co ct ci ce cb cj c8 cd dh df bl c g dt dz Z Z Z Z Z Z Z Z Z Z Z Z Z Z Z Z Z Z Z Z Z Z Z Z Z Z Z Z Z Z Z Z Z Z Z Z σ
 ):=by kernel_rfl
theorem f159_L3_gen (G:Qe) (hG:Qo G) (lo:Nat) (N0:Qp->Qa->Option (DV×Qa)) (a b c d g i l:DV) (σ:Qa):Qm G PP (pol 159) CC lo (.loop c159_78) a159_77 (a::b::c::d::zn 5 (g::i::Z::l::zn 128 [])) σ
 (Qf 6 a159_76 (VL N0 (Qf 1 WK (seqC G PP (pol 159) CC lo Vo Vt (QN G PP (pol 159) CC lo Vp VF (Qf 0 VP (seqC G PP (pol 159) CC lo WX Va (finR PP Tryz.f159.results.toList)))))))) =
 (binOp PP .lss 3 l c).bind fun ea=>
 Qh ea
 (
 (indexAddr PP 23 a l).bind fun du=>
 (load PP 69 du σ).bind fun di=>
 (binOp PP .sub 3 l I1).bind fun ef=>
 (indexAddr PP 23 a ef).bind fun cg=>
 (load PP 69 cg σ).bind fun ew=>
 (Qg CC d [di,ew] σ).bind fun cq=>
 (binOp PP .lss 3 cq I0).bind fun dq=>
 (unOp .not dq).bind fun ez=>
 Qh ez
 (
 N0 (f159_J1_fr a b c d g i Z Z Z Z Z Z Z Z Z Z Z Z Z Z Z Z Z Z Z Z Z Z Z Z Z Z Z Z Z Z Z Z Z Z Z Z Z Z Z Z Z Z Z Z Z Z Z Z Z Z Z Z Z Z Z Z Z Z Z Z Z Z Z Z Z Z Z Z Z Z Z Z Z Z Z Z Z Z Z Z Z Z Z Z Z Z Z Z Z Z Z Z Z Z Z Z Z Z Z Z Z Z Z Z) σ
 )
 (
 (binOp PP .sub 3 l I1).bind fun de=>
 (binOp PP .sub 3 l I1).bind fun eq=>
 (indexAddr PP 23 a eq).bind fun eg=>
 (load PP 69 eg σ).bind fun eh=>
 (indexAddr PP 23 a l).bind fun en=>
 (load PP 69 en σ).bind fun dy=>
 (indexAddr PP 23 a l).bind fun da=>
 (store PP lo 69 da eh σ).bind fun σ16=>
 (indexAddr PP 23 a de).bind fun dr=>
 (store PP lo 69 dr dy σ16).bind fun σ17=>
 (binOp PP .add 3 l I1).bind fun dx=>
 Qm G PP (pol 159) CC lo (.loop c159_78) a159_77 (a::b::c::d::zn 5 (g::i::Z::dx::zn 128 [])) σ17 (Qf 6 a159_76 (VL N0 (Qf 1 WK (seqC G PP (pol 159) CC lo Vo Vt (QN G PP (pol 159) CC lo Vp VF (Qf 0 VP (seqC G PP (pol 159) CC lo WX Va (finR PP Tryz.f159.results.toList))))))))
 )
 )
 (
 N0 (f159_J1_fr a b c d g i Z Z Z Z Z Z Z Z Z Z Z Z Z Z Z Z Z Z Z Z Z Z Z Z Z Z Z Z Z Z Z Z Z Z Z Z Z Z Z Z Z Z Z Z Z Z Z Z Z Z Z Z Z Z Z Z Z Z Z Z Z Z Z Z Z Z Z Z Z Z Z Z Z Z Z Z Z Z Z Z Z Z Z Z Z Z Z Z Z Z Z Z Z Z Z Z Z Z Z Z Z Z Z Z) σ
 ):=(Ql G hG).trans (by kernel_rfl)
theorem f159_L3_eq (G:Qe) (hG:Qo G) (lo:Nat) (a b c d g i l:DV) (σ:Qa):f159_L3 G lo a b c d g i l σ =
 (binOp PP .lss 3 l c).bind fun ea=>
 Qh ea
 (
 (indexAddr PP 23 a l).bind fun du=>
 (load PP 69 du σ).bind fun di=>
 (binOp PP .sub 3 l I1).bind fun ef=>
 (indexAddr PP 23 a ef).bind fun cg=>
 (load PP 69 cg σ).bind fun ew=>
 (Qg CC d [di,ew] σ).bind fun cq=>
 (binOp PP .lss 3 cq I0).bind fun dq=>
 (unOp .not dq).bind fun ez=>
 Qh ez
 (
 f159_J1 G lo a b c d g i Z Z Z Z Z Z Z Z Z Z Z Z Z Z Z Z Z Z Z Z Z Z Z Z Z Z Z Z Z Z Z Z Z Z Z Z Z Z Z Z Z Z Z Z Z Z Z Z Z Z Z Z Z Z Z Z Z Z Z Z Z Z Z Z Z Z Z Z Z Z Z Z Z Z Z Z Z Z Z Z Z Z Z Z Z Z Z Z Z Z Z Z Z Z Z Z Z Z Z Z Z Z Z Z σ
 )
 (
 (binOp PP .sub 3 l I1).bind fun de=>
 (binOp PP .sub 3 l I1).bind fun eq=>
 (indexAddr PP 23 a eq).bind fun eg=>
 (load PP 69 eg σ).bind fun eh=>
 (indexAddr PP 23 a l).bind fun en=>
 (load PP 69 en σ).bind fun dy=>
 (indexAddr PP 23 a l).bind fun da=>
 (store PP lo 69 da eh σ).bind fun σ16=>
 (indexAddr PP 23 a de).bind fun dr=>
 (store PP lo 69 dr dy σ16).bind fun σ17=>
 (binOp PP .add 3 l I1).bind fun dx=>
 f159_L3 G lo a b c d g i dx σ17
 )
 )
 (
 f159_J1 G lo a b c d g i Z Z Z Z Z Z Z Z Z Z Z Z Z Z Z Z Z Z Z Z Z Z Z Z Z Z Z Z Z Z Z Z Z Z Z Z Z Z Z Z Z Z Z Z Z Z Z Z Z Z Z Z Z Z Z Z Z Z Z Z Z Z Z Z Z Z Z Z Z Z Z Z Z Z Z Z Z Z Z Z Z Z Z Z Z Z Z Z Z Z Z Z Z Z Z Z Z Z Z Z Z Z Z Z σ
 ):=by
 have h:=f159_L3_gen (N0:=(Qf 1 WK (seqC G PP (pol 159) CC lo Vo Vt (QN G PP (pol 159) CC lo Vp VF (Qf 0 VP (seqC G PP (pol 159) CC lo WX Va (finR PP Tryz.f159.results.toList)))))) .normal) G hG lo a b c d g i l σ
 simp only [WG] at h
 exact h
theorem f159_J1_eq (G:Qe) (lo:Nat) (a b c d g i j l L C x y X P N t J E ak ar az T W aa b9 be bp av bc bb bh bm bi bj bu bg bf cm dc br ba cz cc M ck ca bq bz bv c7 cw n cr bk bt bn bw cn ch co ct ci ce cb cj c8 cd dh df bl dl ei dt dz dm ej dk dj ea dd dx am c9 ek du di cp eu ef cg ew cq dq ez cu ee f5 db de dw f6 eq eg eh f0 dg en dy da dr:DV) (σ:Qa):f159_J1 G lo a b c d g i j l L C x y X P N t J E ak ar az T W aa b9 be bp av bc bb bh bm bi bj bu bg bf cm dc br ba cz cc M ck ca bq bz bv c7 cw n cr bk bt bn bw cn ch co ct ci ce cb cj c8 cd dh df bl dl ei dt dz dm ej dk dj ea dd dx am c9 ek du di cp eu ef cg ew cq dq ez cu ee f5 db de dw f6 eq eg eh f0 dg en dy da dr σ =
 (binOp PP .add 3 i I1).bind fun af=>
 f159_L0 G lo a b c d g af σ:=by kernel_rfl
theorem F159_eq (G:Qe) (lo:Nat) (a b c d:DV) (σ:Qa):F159 G lo a b c d σ =
 (binOp PP .add 3 b I1).bind fun w=>
 f159_L0 G lo a b c d w I0 σ:=by kernel_rfl
theorem F159_call {lo:Nat} {a b c d:DV} (h:F159 Qb lo a b c d σ=some r):CC lo 159 [a,b,c,d] σ=some r:=
 callL_run Tryz.func159 (by decide +kernel) rfl (by decide +kernel) h
def c160_0:Code:=Qs Tryz.f160
def a160_0:Ann:=(pol 160).ann
def a160_7:Ann:=left (right (right (right a160_0)))
def a160_8:Ann:=left a160_7
def c160_9:Code:=fstC (fstC (fstC (sndC (sndC (sndC c160_0)))))
def a160_9:Ann:=left a160_8
def a160_11:Ann:=left (left a160_9)
def a160_12:Ann:=left a160_11
def c160_13:Code:=fstC (fstC (fstC (fstC c160_9)))
def c160_21:Code:=sndC (fstC c160_9)
def a160_21:Ann:=right (left a160_9)
def a160_22:Ann:=left a160_21
def a160_23:Ann:=left a160_22
def c160_24:Code:=fstC (fstC (fstC c160_21))
def c160_32:Code:=sndC c160_21
def a160_32:Ann:=right a160_21
def c160_43:Code:=sndC (sndC (sndC (sndC c160_0)))
def a160_43:Ann:=right (right (right (right a160_0)))
def f160_L0 (a b f j l:DV) (σ:Qa):RS:=
 Qm G PP (pol 160) CC lo (.loop c160_9) a160_8 (a::b::Z::Z::f::zn 6 (j::l::zn 77 [])) σ
 (Qf 0 a160_7 (seqC G PP (pol 160) CC lo c160_43 a160_43 (finR PP Tryz.f160.results.toList)))
def f160_L1 (a b f j l:DV) (σ:Qa):RS:=
 Qm G PP (pol 160) CC lo (.loop c160_13) a160_12 (a::b::Z::Z::f::zn 6 (j::l::zn 77 [])) σ
 (Qf 2 a160_11 (seqC G PP (pol 160) CC lo c160_21 a160_21 (Qf 1 a160_9 (QN G PP (pol 160) CC lo c160_9 a160_8 (Qf 0 a160_7 (seqC G PP (pol 160) CC lo c160_43 a160_43 (finR PP Tryz.f160.results.toList)))))))
def f160_L2 (a b f j l:DV) (σ:Qa):RS:=
 Qm G PP (pol 160) CC lo (.loop c160_24) a160_23 (a::b::Z::Z::f::zn 6 (j::l::zn 77 [])) σ
 (Qf 4 a160_22 (seqC G PP (pol 160) CC lo c160_32 a160_32 (Qf 1 a160_9 (QN G PP (pol 160) CC lo c160_9 a160_8 (Qf 0 a160_7 (seqC G PP (pol 160) CC lo c160_43 a160_43 (finR PP Tryz.f160.results.toList)))))))
def F160 (a b c d f:DV) (σ:Qa):RS:=
 Qm G PP (pol 160) CC lo c160_0 a160_0 (a::b::c::d::f::zn 85 []) σ (finR PP Tryz.f160.results.toList)
theorem f160_L0_eq (G:Qe) (hG:Qo G) (lo:Nat) (a b f j l:DV) (σ:Qa):f160_L0 G lo a b f j l σ =
 f160_L1 G lo a b f j l σ:=(Ql G hG).trans (by kernel_rfl)
theorem f160_L1_eq (G:Qe) (hG:Qo G) (lo:Nat) (a b f j l:DV) (σ:Qa):f160_L1 G lo a b f j l σ =
 (binOp PP .leq 3 j l).bind fun ae=>
 G _ ae true (some (f,σ)) σ fun ai σ3=>
 G _ ae true (some (a,σ3)) σ3 fun aj σ4=>
 G _ ae true (some (b,σ4)) σ4 fun aq σ5=>
 Gp G ae true (indexAddr PP 23 aj aq) σ5 fun Y σ6=>
 Gp G ae true (load PP 69 Y σ6) σ6 fun L σ7=>
 G _ ae true (some (a,σ7)) σ7 fun C σ8=>
 G _ ae true (some (j,σ8)) σ8 fun x σ9=>
 Gp G ae true (indexAddr PP 23 C x) σ9 fun y σ10=>
 Gp G ae true (load PP 69 y σ10) σ10 fun X σ11=>
 Gp G ae true (Qg CC ai [L,X] σ11) σ11 fun P σ12=>
 Gp G ae true (binOp PP .lss 3 P I0) σ12 fun N σ13=>
 Gp G ae true (unOp .not N) σ13 fun t σ14=>
 (Qt ae t (DV.p (PV.bool false))).bind fun J=>
 Qh J
 (
 (binOp PP .add 3 j I1).bind fun ak=>
 f160_L1 G lo a b f ak l σ14
 )
 (
 f160_L2 G lo a b f j l σ14
 ):=(Ql G hG).trans (by kernel_rfl)
theorem f160_L2_eq (G:Qe) (hG:Qo G) (lo:Nat) (a b f j l:DV) (σ:Qa):f160_L2 G lo a b f j l σ =
 (binOp PP .leq 3 j l).bind fun T=>
 G _ T true (some (f,σ)) σ fun aa σ15=>
 G _ T true (some (a,σ15)) σ15 fun b9 σ16=>
 G _ T true (some (b,σ16)) σ16 fun be σ17=>
 Gp G T true (indexAddr PP 23 b9 be) σ17 fun bp σ18=>
 Gp G T true (load PP 69 bp σ18) σ18 fun av σ19=>
 G _ T true (some (a,σ19)) σ19 fun bc σ20=>
 G _ T true (some (l,σ20)) σ20 fun bb σ21=>
 Gp G T true (indexAddr PP 23 bc bb) σ21 fun bh σ22=>
 Gp G T true (load PP 69 bh σ22) σ22 fun bm σ23=>
 Gp G T true (Qg CC aa [av,bm] σ23) σ23 fun bi σ24=>
 Gp G T true (binOp PP .lss 3 bi I0) σ24 fun bj σ25=>
 (Qt T bj (DV.p (PV.bool false))).bind fun bu=>
 Qh bu
 (
 (binOp PP .sub 3 l I1).bind fun bf=>
 f160_L2 G lo a b f j bf σ25
 )
 (
 (binOp PP .gtr 3 j l).bind fun br=>
 Qh br
 (
 some (j,σ25)
 )
 (
 (indexAddr PP 23 a l).bind fun bq=>
 (load PP 69 bq σ25).bind fun bz=>
 (indexAddr PP 23 a j).bind fun cw=>
 (load PP 69 cw σ25).bind fun n=>
 (indexAddr PP 23 a j).bind fun cr=>
 (store PP lo 69 cr bz σ25).bind fun σ26=>
 (indexAddr PP 23 a l).bind fun bk=>
 (store PP lo 69 bk n σ26).bind fun σ27=>
 (binOp PP .add 3 j I1).bind fun bn=>
 (binOp PP .sub 3 l I1).bind fun cn=>
 f160_L0 G lo a b f bn cn σ27
 )
 ):=(Ql G hG).trans (by kernel_rfl)
theorem F160_eq (G:Qe) (lo:Nat) (a b c d f:DV) (σ:Qa):F160 G lo a b c d f σ =
 (indexAddr PP 23 a d).bind fun b8=>
 (load PP 69 b8 σ).bind fun Q=>
 (indexAddr PP 23 a b).bind fun z=>
 (load PP 69 z σ).bind fun K=>
 (indexAddr PP 23 a b).bind fun A=>
 (store PP lo 69 A Q σ).bind fun σ1=>
 (indexAddr PP 23 a d).bind fun ac=>
 (store PP lo 69 ac K σ1).bind fun σ2=>
 (binOp PP .add 3 b I1).bind fun au=>
 (binOp PP .sub 3 c I1).bind fun aw=>
 f160_L0 G lo a b f au aw σ2:=by kernel_rfl
theorem F160_call {lo:Nat} {a b c d f:DV} (h:F160 Qb lo a b c d f σ=some r):CC lo 160 [a,b,c,d,f] σ=some r:=
 callL_run Tryz.func160 (by decide +kernel) rfl (by decide +kernel) h
def c161_0:Code:=Qs Tryz.f161
def a161_0:Ann:=(pol 161).ann
def a161_7:Ann:=left (right (right (right a161_0)))
def a161_8:Ann:=left a161_7
def c161_9:Code:=fstC (fstC (fstC (sndC (sndC (sndC c161_0)))))
def c161_17:Code:=sndC (sndC (sndC (sndC c161_0)))
def a161_17:Ann:=right (right (right (right a161_0)))
def a161_18:Ann:=left a161_17
def a161_19:Ann:=left a161_18
def c161_20:Code:=fstC (fstC (fstC c161_17))
def c161_28:Code:=sndC c161_17
def a161_28:Ann:=right a161_17
def a161_45:Ann:=left (right (right (right (right a161_28))))
def a161_46:Ann:=left a161_45
def c161_47:Code:=fstC (fstC (fstC (sndC (sndC (sndC (sndC c161_28))))))
def a161_47:Ann:=left a161_46
def a161_49:Ann:=left (left a161_47)
def a161_50:Ann:=left a161_49
def c161_51:Code:=fstC (fstC (fstC (fstC c161_47)))
def c161_59:Code:=sndC (fstC c161_47)
def a161_59:Ann:=right (left a161_47)
def a161_60:Ann:=left a161_59
def a161_61:Ann:=left a161_60
def c161_62:Code:=fstC (fstC (fstC c161_59))
def c161_70:Code:=sndC c161_59
def a161_70:Ann:=right a161_59
def c161_81:Code:=sndC (sndC (sndC (sndC (sndC c161_28))))
def a161_81:Ann:=right (right (right (right (right a161_28))))
def f161_L0 (a b f l q:DV) (σ:Qa):RS:=
 Qm G PP (pol 161) CC lo (.loop c161_9) a161_8 (a::b::Z::Z::f::zn 7 (l::q::zn 164 [])) σ
 (Qf 0 a161_7 (seqC G PP (pol 161) CC lo c161_17 a161_17 (finR PP Tryz.f161.results.toList)))
def f161_L1 (a b f l q:DV) (σ:Qa):RS:=
 Qm G PP (pol 161) CC lo (.loop c161_20) a161_19 (a::b::Z::Z::f::zn 7 (l::q::zn 164 [])) σ
 (Qf 2 a161_18 (seqC G PP (pol 161) CC lo c161_28 a161_28 (finR PP Tryz.f161.results.toList)))
def f161_L2 (a b f l q:DV) (σ:Qa):RS:=
 Qm G PP (pol 161) CC lo (.loop c161_47) a161_46 (a::b::Z::Z::f::zn 7 (l::q::zn 164 [])) σ
 (Qf 4 a161_45 (seqC G PP (pol 161) CC lo c161_81 a161_81 (finR PP Tryz.f161.results.toList)))
def f161_L3 (a b f l q:DV) (σ:Qa):RS:=
 Qm G PP (pol 161) CC lo (.loop c161_51) a161_50 (a::b::Z::Z::f::zn 7 (l::q::zn 164 [])) σ
 (Qf 6 a161_49 (seqC G PP (pol 161) CC lo c161_59 a161_59 (Qf 5 a161_47 (QN G PP (pol 161) CC lo c161_47 a161_46 (Qf 4 a161_45 (seqC G PP (pol 161) CC lo c161_81 a161_81 (finR PP Tryz.f161.results.toList)))))))
def f161_L4 (a b f l q:DV) (σ:Qa):RS:=
 Qm G PP (pol 161) CC lo (.loop c161_62) a161_61 (a::b::Z::Z::f::zn 7 (l::q::zn 164 [])) σ
 (Qf 8 a161_60 (seqC G PP (pol 161) CC lo c161_70 a161_70 (Qf 5 a161_47 (QN G PP (pol 161) CC lo c161_47 a161_46 (Qf 4 a161_45 (seqC G PP (pol 161) CC lo c161_81 a161_81 (finR PP Tryz.f161.results.toList)))))))
def F161 (a b c d f:DV) (σ:Qa):RS:=
 Qm G PP (pol 161) CC lo c161_0 a161_0 (a::b::c::d::f::zn 173 []) σ (finR PP Tryz.f161.results.toList)
theorem f161_L0_eq (G:Qe) (hG:Qo G) (lo:Nat) (a b f l q:DV) (σ:Qa):f161_L0 G lo a b f l q σ =
 (binOp PP .leq 3 l q).bind fun V=>
 G _ V true (some (f,σ)) σ fun aj σ3=>
 G _ V true (some (a,σ3)) σ3 fun aq σ4=>
 G _ V true (some (l,σ4)) σ4 fun Y σ5=>
 Gp G V true (indexAddr PP 23 aq Y) σ5 fun L σ6=>
 Gp G V true (load PP 69 L σ6) σ6 fun C σ7=>
 G _ V true (some (a,σ7)) σ7 fun x σ8=>
 G _ V true (some (b,σ8)) σ8 fun y σ9=>
 Gp G V true (indexAddr PP 23 x y) σ9 fun X σ10=>
 Gp G V true (load PP 69 X σ10) σ10 fun P σ11=>
 Gp G V true (Qg CC aj [C,P] σ11) σ11 fun N σ12=>
 Gp G V true (binOp PP .lss 3 N I0) σ12 fun t σ13=>
 (Qt V t (DV.p (PV.bool false))).bind fun J=>
 Qh J
 (
 (binOp PP .add 3 l I1).bind fun ak=>
 f161_L0 G lo a b f ak q σ13
 )
 (
 f161_L1 G lo a b f l q σ13
 ):=(Ql G hG).trans (by kernel_rfl)
theorem f161_L1_eq (G:Qe) (hG:Qo G) (lo:Nat) (a b f l q:DV) (σ:Qa):f161_L1 G lo a b f l q σ =
 (binOp PP .leq 3 l q).bind fun T=>
 G _ T true (some (f,σ)) σ fun aa σ14=>
 G _ T true (some (a,σ14)) σ14 fun b9 σ15=>
 G _ T true (some (q,σ15)) σ15 fun be σ16=>
 Gp G T true (indexAddr PP 23 b9 be) σ16 fun bp σ17=>
 Gp G T true (load PP 69 bp σ17) σ17 fun av σ18=>
 G _ T true (some (a,σ18)) σ18 fun bc σ19=>
 G _ T true (some (b,σ19)) σ19 fun bb σ20=>
 Gp G T true (indexAddr PP 23 bc bb) σ20 fun bh σ21=>
 Gp G T true (load PP 69 bh σ21) σ21 fun bm σ22=>
 Gp G T true (Qg CC aa [av,bm] σ22) σ22 fun bi σ23=>
 Gp G T true (binOp PP .lss 3 bi I0) σ23 fun bj σ24=>
 Gp G T true (unOp .not bj) σ24 fun bu σ25=>
 (Qt T bu (DV.p (PV.bool false))).bind fun bg=>
 Qh bg
 (
 (binOp PP .sub 3 q I1).bind fun cm=>
 f161_L1 G lo a b f l cm σ25
 )
 (
 (binOp PP .gtr 3 l q).bind fun ba=>
 Qh ba
 (
 (indexAddr PP 23 a b).bind fun bz=>
 (load PP 69 bz σ25).bind fun bv=>
 (indexAddr PP 23 a q).bind fun n=>
 (load PP 69 n σ25).bind fun cr=>
 (indexAddr PP 23 a q).bind fun bk=>
 (store PP lo 69 bk bv σ25).bind fun σ26=>
 (indexAddr PP 23 a b).bind fun bt=>
 (store PP lo 69 bt cr σ26).bind fun σ27=>
 some ((DV.tuple [q,(DV.p (PV.bool true))]),σ27)
 )
 (
 (indexAddr PP 23 a q).bind fun ce=>
 (load PP 69 ce σ25).bind fun cb=>
 (indexAddr PP 23 a l).bind fun cd=>
 (load PP 69 cd σ25).bind fun dh=>
 (indexAddr PP 23 a l).bind fun df=>
 (store PP lo 69 df cb σ25).bind fun σ28=>
 (indexAddr PP 23 a q).bind fun bl=>
 (store PP lo 69 bl dh σ28).bind fun σ29=>
 (binOp PP .add 3 l I1).bind fun ei=>
 (binOp PP .sub 3 q I1).bind fun dz=>
 f161_L2 G lo a b f ei dz σ29
 )
 ):=(Ql G hG).trans (by kernel_rfl)
theorem f161_L2_eq (G:Qe) (hG:Qo G) (lo:Nat) (a b f l q:DV) (σ:Qa):f161_L2 G lo a b f l q σ =
 f161_L3 G lo a b f l q σ:=(Ql G hG).trans (by kernel_rfl)
theorem f161_L3_eq (G:Qe) (hG:Qo G) (lo:Nat) (a b f l q:DV) (σ:Qa):f161_L3 G lo a b f l q σ =
 (binOp PP .leq 3 l q).bind fun dk=>
 G _ dk true (some (f,σ)) σ fun ea σ30=>
 G _ dk true (some (a,σ30)) σ30 fun dd σ31=>
 G _ dk true (some (l,σ31)) σ31 fun dx σ32=>
 Gp G dk true (indexAddr PP 23 dd dx) σ32 fun am σ33=>
 Gp G dk true (load PP 69 am σ33) σ33 fun c9 σ34=>
 G _ dk true (some (a,σ34)) σ34 fun ek σ35=>
 G _ dk true (some (b,σ35)) σ35 fun du σ36=>
 Gp G dk true (indexAddr PP 23 ek du) σ36 fun di σ37=>
 Gp G dk true (load PP 69 di σ37) σ37 fun cp σ38=>
 Gp G dk true (Qg CC ea [c9,cp] σ38) σ38 fun eu σ39=>
 Gp G dk true (binOp PP .lss 3 eu I0) σ39 fun ef σ40=>
 (Qt dk ef (DV.p (PV.bool false))).bind fun cg=>
 Qh cg
 (
 (binOp PP .add 3 l I1).bind fun cq=>
 f161_L3 G lo a b f cq q σ40
 )
 (
 f161_L4 G lo a b f l q σ40
 ):=(Ql G hG).trans (by kernel_rfl)
theorem f161_L4_eq (G:Qe) (hG:Qo G) (lo:Nat) (a b f l q:DV) (σ:Qa):f161_L4 G lo a b f l q σ =
 (binOp PP .leq 3 l q).bind fun cu=>
 G _ cu true (some (f,σ)) σ fun f5 σ41=>
 G _ cu true (some (a,σ41)) σ41 fun db σ42=>
 G _ cu true (some (q,σ42)) σ42 fun de σ43=>
 Gp G cu true (indexAddr PP 23 db de) σ43 fun dw σ44=>
 Gp G cu true (load PP 69 dw σ44) σ44 fun f6 σ45=>
 G _ cu true (some (a,σ45)) σ45 fun eq σ46=>
 G _ cu true (some (b,σ46)) σ46 fun eg σ47=>
 Gp G cu true (indexAddr PP 23 eq eg) σ47 fun eh σ48=>
 Gp G cu true (load PP 69 eh σ48) σ48 fun f0 σ49=>
 Gp G cu true (Qg CC f5 [f6,f0] σ49) σ49 fun dg σ50=>
 Gp G cu true (binOp PP .lss 3 dg I0) σ50 fun en σ51=>
 Gp G cu true (unOp .not en) σ51 fun dy σ52=>
 (Qt cu dy (DV.p (PV.bool false))).bind fun da=>
 Qh da
 (
 (binOp PP .sub 3 q I1).bind fun fi=>
 f161_L4 G lo a b f l fi σ52
 )
 (
 (binOp PP .gtr 3 l q).bind fun f7=>
 Qh f7
 (
 (indexAddr PP 23 a b).bind fun fh=>
 (load PP 69 fh σ52).bind fun f8=>
 (indexAddr PP 23 a q).bind fun ga=>
 (load PP 69 ga σ52).bind fun fe=>
 (indexAddr PP 23 a q).bind fun gj=>
 (store PP lo 69 gj f8 σ52).bind fun σ53=>
 (indexAddr PP 23 a b).bind fun gb=>
 (store PP lo 69 gb fe σ53).bind fun σ54=>
 some ((DV.tuple [q,(DV.p (PV.bool false))]),σ54)
 )
 (
 (indexAddr PP 23 a q).bind fun fm=>
 (load PP 69 fm σ52).bind fun fo=>
 (indexAddr PP 23 a l).bind fun fa=>
 (load PP 69 fa σ52).bind fun fb=>
 (indexAddr PP 23 a l).bind fun fg=>
 (store PP lo 69 fg fo σ52).bind fun σ55=>
 (indexAddr PP 23 a q).bind fun fz=>
 (store PP lo 69 fz fb σ55).bind fun σ56=>
 (binOp PP .add 3 l I1).bind fun fc=>
 (binOp PP .sub 3 q I1).bind fun ft=>
 f161_L2 G lo a b f fc ft σ56
 )
 ):=(Ql G hG).trans (by kernel_rfl)
theorem F161_eq (G:Qe) (lo:Nat) (a b c d f:DV) (σ:Qa):F161 G lo a b c d f σ =
 (indexAddr PP 23 a d).bind fun Q=>
 (load PP 69 Q σ).bind fun u=>
 (indexAddr PP 23 a b).bind fun K=>
 (load PP 69 K σ).bind fun A=>
 (indexAddr PP 23 a b).bind fun ac=>
 (store PP lo 69 ac u σ).bind fun σ1=>
 (indexAddr PP 23 a d).bind fun U=>
 (store PP lo 69 U A σ1).bind fun σ2=>
 (binOp PP .add 3 b I1).bind fun S=>
 (binOp PP .sub 3 c I1).bind fun B=>
 f161_L0 G lo a b f S B σ2:=by kernel_rfl
theorem F161_call {lo:Nat} {a b c d f:DV} (h:F161 Qb lo a b c d f σ=some r):CC lo 161 [a,b,c,d,f] σ=some r:=
 callL_run Tryz.func161 (by decide +kernel) rfl (by decide +kernel) h
end
end Go.D
end
/- Sorting by the library's pdqsort over elements of type 69: the program's functions do what Go.D.Srt says. -/
section
set_option linter.unusedVariables false
set_option linter.unusedSimpArgs false
namespace Go.D.StT
open Go.D.Srt
abbrev E:Type:=Edg
def cel (e:E):List DV:=[.p (.int .i64 e.f),.p (.int .i64 e.t),.p (.int .i64 e.a)]
def val (e:E):DV:=.agg (cel e)
def cels (A:List E):List DV:=A.flatMap cel
theorem ZH (e:E):(cel e).length=3:=rfl
theorem cel_one (e:E):(cel e).all DV.one=true:=rfl
theorem WP (A:List E):(cels A).length=A.length*3:=by
 induction A with
 | nil=>rfl
 | cons a A ih=>
  have e:cels (a::A)=cel a++cels A:=rfl
  rw [e,List.length_append,ih,ZH,List.length_cons]; omega
theorem cels_app (A B:List E):cels (A++B)=cels A++cels B:=by simp [cels]
theorem Ur {A:List E} {i:Nat} (h:i<A.length):cels A=cels (A.take i)++(cel (ge A i)++cels (A.drop (i+1))):=by
 have e1:A=A.take i++(ge A i::A.drop (i+1)):=by
  have e2:ge A i=A[i]:=by unfold ge; rw [List.getD_eq_getElem?_getD,List.getElem?_eq_getElem h]; rfl
  rw [e2,<-List.drop_eq_getElem_cons h,List.take_append_drop]
 have e3:cels (ge A i::A.drop (i+1))=cel (ge A i)++cels (A.drop (i+1)):=rfl
 rw [<-e3,<-cels_app,<-e1]
theorem Wu {A:List E} {i:Nat} (h:i<A.length):(cels (A.take i)).length=i*3:=by
 rw [WP,List.length_take,Nat.min_eq_left (by omega)]
theorem cels_get {A:List E} {i:Nat} (h:i<A.length):((cels A).drop (i*3)).take 3=cel (ge A i):=by
 rw [Ur h,<-Wu h,List.drop_left,List.take_append_of_le_length (by rw [ZH]; exact Nat.le_refl _),List.take_of_length_le (by rw [ZH]; exact Nat.le_refl _)]
theorem cels_set {A:List E} {i:Nat} (h:i<A.length) (v:E):QS (cels A) (i*3) (cel v)=cels (A.set i v):=by
 have h2:i<(A.set i v).length:=by rw [List.length_set]; exact h
 rw [Ur h2,ge_set h,if_pos rfl,List.take_set_of_le (Nat.le_refl _),List.drop_set_of_lt (by omega)]
 unfold QS
 rw [Ur h,List.take_append_of_le_length (by rw [Wu h]; exact Nat.le_refl _),List.take_of_length_le (by rw [Wu h]; exact Nat.le_refl _),List.append_assoc]
 congr 2
 rw [<-List.append_assoc,List.drop_append_of_le_length (by rw [List.length_append,Wu h,ZH,ZH]; exact Nat.le_refl _),List.drop_of_length_le (by rw [List.length_append,Wu h,ZH,ZH]; exact Nat.le_refl _),List.nil_append]
def W (σ:Qa) (r:Nat) (A:List E):Qa:=σ.set r (.mix (cels A))
theorem Jk {σ:Qa} {r:Nat} (hr:r<σ.length) (A:List E):(W σ r A)[r]?=some (.mix (cels A)):=by rw [W,List.getElem?_set_self hr]
theorem W_eq {σ:Qa} {r:Nat} {A:List E} (h:σ[r]?=some (.mix (cels A))):W σ r A=σ:=by
 refine List.ext_getElem? fun i=>?_
 rw [W]
 by_cases e:r=i
 ·subst e; rw [List.getElem?_set_self (QT h),h]
 ·rw [List.getElem?_set_ne e]
theorem W_len (σ:Qa) (r:Nat) (A:List E):(W σ r A).length=σ.length:=by simp [W]
theorem W_snoc {σ:Qa} {r:Nat} (hr:r<σ.length) (A:List E) (row:Row):W σ r A++[row]=W (σ++[row]) r A:=by
 rw [W,W,List.set_append_left _ _ hr]
theorem uL:PP.underlying 23=some (.slice 69):=Eq.trans (by kernel_rfl) rfl
theorem sE:size? PP 69=some 3:=Eq.trans (by kernel_rfl) rfl
theorem loadE (x:DV) (σ:Qa):load PP 69 x σ=(Wl σ 3 x).map .agg:=Eq.trans (by kernel_rfl) rfl
theorem idxL {r n i:Nat} (h:i<n):indexAddr PP 23 (.rsl r 3 0 n) (.p (pI (i:Nat)))=some (.ptr r (i*3)):=by
 have h2:(0:Int)<=(i:Int)/\(i:Int)<(n:Nat):=by omega
 simp [indexAddr,uL,sE,h2]
theorem ldW {σ:Qa} {r i:Nat} {A:List E} (hr:r<σ.length) (h:i<A.length):load PP 69 (.ptr r (i*3)) (W σ r A)=some (val (ge A i)):=by
 rw [loadE,QI (Jk hr A) (cels_get h) (by rw [WP]; omega)]; rfl
theorem stW {σ:Qa} {r i lo:Nat} {A:List E} (hr:r<σ.length) (h:i<A.length) (hlo:lo<=r) (v:E):store PP lo 69 (.ptr r (i*3)) (val v) (W σ r A)=some (W σ r (A.set i v)):=by
 have e1:(val v).cells=cel v:=rfl
 have e2:i*3+3<=(cels A).length:=by rw [WP]; omega
 simp only [store,sE,e1,ZH,if_true,Zo,hlo,Jk hr,cel_one,e2,decide_true,Bool.and_self,cels_set h]
 rw [W,W,List.set_set]
theorem QW (A:List E) (i:Nat) (v:E):(A.set i v).length=A.length:=List.length_set
theorem add1 {a:Nat} (h:a<=1000000):binOp PP .add 3 (.p (.int .i64 (a:Nat))) (.p (.int .i64 1))=some (.p (.int .i64 ((a+1:Nat):Int))):=by
 rw [Wa,QE (by omega) (by omega)]; rfl
theorem sub1 {a:Nat} (h0:0<a) (h:a<=1000000):binOp PP .sub 3 (.p (.int .i64 (a:Nat))) (.p (.int .i64 1))=some (.p (.int .i64 ((a-1:Nat):Int))):=by
 rw [WD,QE (by omega) (by omega)]
 congr 3
 omega
theorem addN {a b:Nat} (h:a+b<=1000000):binOp PP .add 3 (.p (.int .i64 (a:Nat))) (.p (.int .i64 (b:Nat)))=some (.p (.int .i64 ((a+b:Nat):Int))):=by
 rw [Wa,QE (by omega) (by omega)]; rfl
theorem subN {a b:Nat} (h0:b<=a) (h:a<=1000000):binOp PP .sub 3 (.p (.int .i64 (a:Nat))) (.p (.int .i64 (b:Nat)))=some (.p (.int .i64 ((a-b:Nat):Int))):=by
 rw [WD,QE (by omega) (by omega)]
 congr 3
 omega
theorem mul2 {a:Nat} (h:a<=1000000):binOp PP .mul 3 (.p (.int .i64 2)) (.p (.int .i64 (a:Nat)))=some (.p (.int .i64 ((2*a:Nat):Int))):=by
 rw [b_mul,QE (by omega) (by omega)]
 congr 3
theorem ltT {a b:Int} (h:a<b):decide (a<b)=true:=decide_eq_true h
theorem ltF {a b:Int} (h:¬ a<b):decide (a<b)=false:=decide_eq_false h
theorem leT {a b:Int} (h:a<=b):decide (a<=b)=true:=decide_eq_true h
theorem leF {a b:Int} (h:¬ a<=b):decide (a<=b)=false:=decide_eq_false h
theorem gtT {a b:Int} (h:a>b):decide (a>b)=true:=decide_eq_true h
theorem gtF {a b:Int} (h:¬ a>b):decide (a>b)=false:=decide_eq_false h
theorem geT {a b:Int} (h:a>=b):decide (a>=b)=true:=decide_eq_true h
theorem geF {a b:Int} (h:¬ a>=b):decide (a>=b)=false:=decide_eq_false h
theorem eqT {a b:Int} (h:a=b):decide (a=b)=true:=decide_eq_true h
theorem eqF {a b:Int} (h:¬ a=b):decide (a=b)=false:=decide_eq_false h
section
variable {cf : FuncId} {cmp : E -> E -> Int} (hc : ∀ (x y : E) (σ : Qa), Qv CC cf [val x, val y] σ = some (.p (.int .i64 (cmp x y))))
variable {r n lo : Nat} {σ : Qa}
def ltc (cmp:E->E->Int) (x y:E):Bool:=decide (cmp x y<0)
abbrev V (r n:Nat):DV:=.rsl r 3 0 n
abbrev N (i:Nat):DV:=.p (.int .i64 (i:Int))
include hc in
theorem ins_L1 (hr:r<σ.length) (hlo:lo<=r) (hn:n<=100000) {a b i:Nat} (hi:i<=100000):∀ (j:Nat) (A:List E),a<=j->j<n->A.length=n->
  f154_L1 Qb lo (V r n) (N a) (N b) (.fn cf []) (N i) (N j) (W σ r A)=f154_L0 Qb lo (V r n) (N a) (N b) (.fn cf []) (N (i+1)) (W σ r (Zb (ltc cmp) a j A))
 | 0,A,ha,hj,hA=>by
  rw [f154_L1_eq Qb rfl]
  simp (disch:=omega) only [V,N,Zh,gtF,gG,add1,Zb]
 | j+1,A,ha,hj,hA=>by
  rw [f154_L1_eq Qb rfl]
  by_cases h1:a<j+1
  ·by_cases h2:cmp (ge A (j+1)) (ge A j)<0
   ·have ih:=ins_L1 hr hlo hn (a:=a) (b:=b) hi j (swp A (j+1) j) (by omega) (by omega) (by rw [Qy]; exact hA)
    have e:Zb (ltc cmp) a (j+1) A=Zb (ltc cmp) a j (swp A (j+1) j):=by
     rw [Zb,if_pos ⟨h1,decide_eq_true h2⟩]
    have h3:(A.set (j+1) (ge A j)).length=n:=by rw [QW]; exact hA
    rw [e,<-ih]
    simp (disch:=omega) only [V,N,Zh,gtT,gG,sub1,idxL,ldW,Nat.add_sub_cancel,Qi,List.append_nil,hc,Qn,ltT,stW,swp]
   ·have e:Zb (ltc cmp) a (j+1) A=A:=by
     rw [Zb,if_neg (fun h=>h2 (of_decide_eq_true h.2))]
    rw [e]
    simp (disch:=omega) only [V,N,Zh,gtT,gG,sub1,idxL,ldW,Nat.add_sub_cancel,Qi,List.append_nil,hc,Qn,ltF,add1]
  ·have e:Zb (ltc cmp) a (j+1) A=A:=by
    rw [Zb,if_neg (fun h=>h1 h.1)]
   rw [e]
   simp (disch:=omega) only [V,N,Zh,gtF,gG,add1]
theorem Vm (lt:E->E->Bool) (a:Nat):∀ (j:Nat) (A:List E),(Zb lt a j A).length=A.length
 | 0,A=>rfl
 | j+1,A=>by
  unfold Zb
  split
  ·rw [Vm lt a j,Qy]
  ·rfl
include hc in
theorem ins_L0 (hr:r<σ.length) (hlo:lo<=r) (hn:n<=100000) {a b:Nat} (hb:b<=n):∀ (k i:Nat) (A:List E),b-i=k->a<=i->A.length=n->
  f154_L0 Qb lo (V r n) (N a) (N b) (.fn cf []) (N i) (W σ r A)=some (.tuple [],W σ r (Vl (ltc cmp) a (b-i) i A))
 | 0,i,A,hk,ha,hA=>by
  rw [f154_L0_eq Qb rfl,hk]
  simp (disch:=omega) only [V,N,Qn,ltF,gG,Vl]
 | k+1,i,A,hk,ha,hA=>by
  rw [f154_L0_eq Qb rfl]
  have h:=ins_L1 hc hr hlo hn (a:=a) (b:=b) (i:=i) (by omega) i A ha (by omega) hA
  have ih:=ins_L0 hr hlo hn (a:=a) hb k (i+1) (Zb (ltc cmp) a i A) (by omega) (by omega) (by rw [Vm]; exact hA)
  have e:Vl (ltc cmp) a (b-i) i A=Vl (ltc cmp) a (b-(i+1)) (i+1) (Zb (ltc cmp) a i A):=by
   rw [show b-i=(b-(i+1))+1 by omega,Vl]
  rw [e,<-ih,<-h]
  simp (disch:=omega) only [V,N,Qn,ltT,gG]
include hc in
theorem ins_ok (hr:r<σ.length) (hlo:lo<=r) (hn:n<=100000) {a b:Nat} (hb:b<=n) (ha:a<=n) (A:List E) (hA:A.length=n) :
  CC lo 154 [V r n,N a,N b,.fn cf []] (W σ r A)=some (.tuple [],W σ r (Vl (ltc cmp) a (b-(a+1)) (a+1) A)):=by
 refine F154_call ?_
 rw [F154_eq]
 simp (disch:=omega) only [N,add1,gG]
 exact ins_L0 hc hr hlo hn hb _ (a+1) A rfl (by omega) hA
end
end Go.D.StT
end
/- Heap sort over elements of type 69. -/
section
set_option linter.unusedVariables false
set_option linter.unusedSimpArgs false
namespace Go.D.StT
open Go.D.Srt
section
variable {cf : FuncId} {cmp : E -> E -> Int} (hc : ∀ (x y : E) (σ : Qa), Qv CC cf [val x, val y] σ = some (.p (.int .i64 (cmp x y))))
variable {r n lo : Nat} {σ : Qa}
include hc in
theorem Jm (hr:r<σ.length) (hlo:lo<=r) (hn:n<=100000) {f hi root c:Nat} (hf:f+hi<=n) (h1:root<hi) (h2:c<hi) (A:List E) (hA:A.length=n) (x13 x14 x15 x16 x17 x18 x19 x20 x21 x22 x23 x24 x25 x26 x27 x28 x29 x30 x31 x32 x33 x34 x35 x36 x37 x38 x39 x40 x41 x42:DV) :
  f164_J0 Qb lo (V r n) (N hi) (N f) (.fn cf []) (N root) (N c) x13 x14 x15 x16 x17 x18 x19 x20 x21 x22 x23 x24 x25 x26 x27 x28 x29 x30 x31 x32 x33 x34 x35 x36 x37 x38 x39 x40 x41 x42 (W σ r A) =
   if ltc cmp (ge A (f+root)) (ge A (f+c))=true then f164_L0 Qb lo (V r n) (N hi) (N f) (.fn cf []) (N c) (W σ r (swp A (f+root) (f+c))) else some (.tuple [],W σ r A):=by
 rw [f164_J0_eq Qb]
 have h3:(A.set (f+root) (ge A (f+c))).length=n:=by rw [QW]; exact hA
 by_cases h:cmp (ge A (f+root)) (ge A (f+c))<0
 ·rw [if_pos (show ltc cmp _ _=true from decide_eq_true h)]
  simp (disch:=omega) only [V,N,addN,gG,idxL,ldW,Qi,List.append_nil,hc,Qn,ltT,stW,swp]
 ·rw [if_neg (show ¬ ltc cmp _ _=true from fun e=>h (of_decide_eq_true e))]
  simp (disch:=omega) only [V,N,addN,gG,idxL,ldW,Qi,List.append_nil,hc,Qn,ltF,stW,swp]
include hc in
theorem UZ (hr:r<σ.length) (hlo:lo<=r) (hn:n<=100000) {f hi:Nat} (hf:f+hi<=n):∀ (k root:Nat) (A:List E),hi-root<=k->root<=100000->A.length=n->
  f164_L0 Qb lo (V r n) (N hi) (N f) (.fn cf []) (N root) (W σ r A)=some (.tuple [],W σ r (sift (ltc cmp) f hi k root A))
 | 0,root,A,hk,hro,hA=>by
  rw [f164_L0_eq Qb rfl]
  simp (disch:=omega) only [V,N,mul2,add1,Zj,geT,gG,sift]
 | k+1,root,A,hk,hro,hA=>by
  rw [f164_L0_eq Qb rfl]
  by_cases h0:hi<=2*root+1
  ·rw [sift,if_pos h0]
   simp (disch:=omega) only [V,N,mul2,add1,Zj,geT,gG]
  ·have e1:f+(2*root+1)+1=f+(2*root+2):=rfl
   have e2:2*root+1+1=2*root+2:=rfl
   by_cases h1:2*root+2<hi
   ·by_cases h2:cmp (ge A (f+(2*root+1))) (ge A (f+(2*root+2)))<0
    ·have ih:=UZ hr hlo hn hf k (2*root+2) (swp A (f+root) (f+(2*root+2))) (by omega) (by omega) (by rw [Qy]; exact hA)
     rw [sift,if_neg h0]
     simp only [h1,show ltc cmp (ge A (f+(2*root+1))) (ge A (f+(2*root+2)))=true from decide_eq_true h2,and_self,if_true]
     simp (disch:=omega) only [V,N,mul2,add1,e1,e2,addN,Zj,geF,Qn,ltT,idxL,ldW,Qi,List.append_nil,hc,gG]
     refine (Jm hc hr hlo hn hf (by omega) h1 A hA _ _ _ _ _ _ _ _ _ _ _ _ _ _ _ _ _ _ _ _ _ _ _ _ _ _ _ _ _ _).trans ?_
     split
     ·exact ih
     ·rfl
    ·have ih:=UZ hr hlo hn hf k (2*root+1) (swp A (f+root) (f+(2*root+1))) (by omega) (by omega) (by rw [Qy]; exact hA)
     rw [sift,if_neg h0]
     simp only [h1,show ltc cmp (ge A (f+(2*root+1))) (ge A (f+(2*root+2)))=false from decide_eq_false h2,Bool.false_eq_true,and_false,if_false]
     simp (disch:=omega) only [V,N,mul2,add1,e1,e2,addN,Zj,geF,Qn,ltT,ltF,idxL,ldW,Qi,List.append_nil,hc,gG]
     refine (Jm hc hr hlo hn hf (by omega) (show 2*root+1<hi by omega) A hA _ _ _ _ _ _ _ _ _ _ _ _ _ _ _ _ _ _ _ _ _ _ _ _ _ _ _ _ _ _).trans ?_
     split
     ·exact ih
     ·rfl
   ·have ih:=UZ hr hlo hn hf k (2*root+1) (swp A (f+root) (f+(2*root+1))) (by omega) (by omega) (by rw [Qy]; exact hA)
    rw [sift,if_neg h0]
    simp only [h1,false_and,if_false]
    simp (disch:=omega) only [V,N,mul2,add1,e1,e2,addN,Zj,geF,Qn,ltF,gG]
    refine (Jm hc hr hlo hn hf (by omega) (show 2*root+1<hi by omega) A hA _ _ _ _ _ _ _ _ _ _ _ _ _ _ _ _ _ _ _ _ _ _ _ _ _ _ _ _ _ _).trans ?_
    split
    ·exact ih
    ·rfl
theorem Vf (lt:E->E->Bool) (f hi:Nat):∀ (k root:Nat) (A:List E),(sift lt f hi k root A).length=A.length
 | 0,root,A=>rfl
 | k+1,root,A=>by
  unfold sift
  split
  ·rfl
  ·simp only
   generalize (if 2*root+2<hi/\lt (ge A (f+(2*root+1))) (ge A (f+(2*root+2)))=true then 2*root+2 else 2*root+1)=c
   split
   ·rw [Vf lt f hi k,Qy]
   ·rfl
include hc in
theorem Jl (hr:r<σ.length) (hlo:lo<=r) (hn:n<=100000) {f hi root:Nat} (hf:f+hi<=n) (hro:root<=100000) (A:List E) (hA:A.length=n) :
  CC lo 164 [V r n,N root,N hi,N f,.fn cf []] (W σ r A)=some (.tuple [],W σ r (sift (ltc cmp) f hi hi root A)):=by
 refine F164_call ?_
 rw [F164_eq]
 exact UZ hc hr hlo hn hf hi root A (by omega) hro hA
theorem sub1_0:binOp PP .sub 3 (.p (.int .i64 ((0:Nat):Int))) (.p (.int .i64 1))=some (.p (.int .i64 (-1))):=by
 rw [WD]; rfl
include hc in
theorem hs_L1 (hr:r<σ.length) (hlo:lo<=r) (hn:n<=100000) {f m:Nat}:∀ (i:Nat) (A:List E),i<=n->(0<i->f+i<=n)->A.length=n->
  f155_L1 Qb lo (V r n) (.fn cf []) (N f) (N 0) (.p (.int .i64 ((i:Int)-1))) (W σ r A)=some (.tuple [],W σ r (hpB (ltc cmp) f i A))
 | 0,A,hi,hf,hA=>by
  rw [f155_L1_eq Qb rfl]
  simp (disch:=omega) only [N,Zj,geF,gG,hpB]
 | i+1,A,hi,hf,hA=>by
  have hf:=hf (Nat.succ_pos _)
  have e:((i+1:Nat):Int)-1=(i:Nat):=by omega
  have h3:(A.set f (ge A (f+i))).length=n:=by rw [QW]; exact hA
  have h1:=Jl hc hr hlo hn (f:=f) (hi:=i) (root:=0) (by omega) (by omega) (swp A f (f+i)) (by rw [Qy]; exact hA)
  have ih:=hs_L1 hr hlo hn (f:=f) (m:=m) i (sift (ltc cmp) f i i 0 (swp A f (f+i))) (by omega) (fun _=>by omega) (by rw [Vf,Qy]; exact hA)
  have e2:binOp PP .sub 3 (.p (.int .i64 ((i:Nat):Int))) (.p (.int .i64 1))=some (.p (.int .i64 ((i:Int)-1))):=by rw [WD,QE (by omega) (by omega)]
  rw [f155_L1_eq Qb rfl,e]
  rw [hpB,<-ih]
  simp only [V,N,swp] at h1
  simp (disch:=omega) only [V,N,Zj,geT,addN,idxL,ldW,stW,gG,e2,Qq,List.append_nil]
  rw [h1]
  simp only [gG,swp]
include hc in
theorem hs_L0 (hr:r<σ.length) (hlo:lo<=r) (hn:n<=100000) {f m:Nat} (hf:f+m<=n):∀ (i:Nat) (A:List E),i<=100000->A.length=n->
  f155_L0 Qb lo (V r n) (.fn cf []) (N f) (N 0) (N m) (N i) (W σ r A)=some (.tuple [],W σ r (hpB (ltc cmp) f m (hpA (ltc cmp) f m i A)))
 | 0,A,hi,hA=>by
  have h1:=Jl hc hr hlo hn (f:=f) (hi:=m) (root:=0) hf (by omega) A hA
  have h2:=hs_L1 hc hr hlo hn (f:=f) (m:=m) m (sift (ltc cmp) f m m 0 A) (by omega) (fun _=>hf) (by rw [Vf]; exact hA)
  have e2:binOp PP .sub 3 (.p (.int .i64 ((m:Nat):Int))) (.p (.int .i64 1))=some (.p (.int .i64 ((m:Int)-1))):=by rw [WD,QE (by omega) (by omega)]
  rw [f155_L0_eq Qb rfl]
  simp only [V,N] at h1
  simp (disch:=omega) only [V,N,Zj,geT,gG,Qq,List.append_nil]
  rw [h1]
  simp only [gG,sub1_0]
  rw [f155_L0_eq Qb rfl]
  simp (disch:=omega) only [V,N,Zj,geF,gG,e2]
  rw [hpA]
  exact h2
 | i+1,A,hi,hA=>by
  have h1:=Jl hc hr hlo hn (f:=f) (hi:=m) (root:=i+1) hf (by omega) A hA
  have ih:=hs_L0 hr hlo hn hf i (sift (ltc cmp) f m m (i+1) A) (by omega) (by rw [Vf]; exact hA)
  rw [f155_L0_eq Qb rfl]
  simp only [V,N] at h1
  simp (disch:=omega) only [V,N,Zj,geT,gG,Qq,List.append_nil]
  rw [h1]
  simp (disch:=omega) only [gG,sub1,Nat.add_sub_cancel]
  rw [hpA]
  exact ih
include hc in
theorem hs_ok (hr:r<σ.length) (hlo:lo<=r) (hn:n<=100000) {a b:Nat} (hab:a<b) (hb:b<=n) (A:List E) (hA:A.length=n) :
  CC lo 155 [V r n,N a,N b,.fn cf []] (W σ r A)=some (.tuple [],W σ r (hpB (ltc cmp) a (b-a) (hpA (ltc cmp) a (b-a) ((b-a-1) / 2) A))):=by
 refine F155_call ?_
 have e2:binOp PP .quo 3 (.p (.int .i64 ((b-a-1:Nat):Int))) (.p (.int .i64 2))=some (.p (.int .i64 (((b-a-1) / 2:Nat):Int))):=by
  have e3:((b-a-1:Nat):Int).tdiv 2=(((b-a-1) / 2:Nat):Int):=by rw [Int.tdiv_eq_ediv_of_nonneg (by omega)]; omega
  have e4:binOp PP .quo 3 (.p (.int .i64 ((b-a-1:Nat):Int))) (.p (.int .i64 2))=some (.p (.int .i64 (IntKind.wrap .i64 (((b-a-1:Nat):Int).tdiv 2)))):=Eq.trans rfl rfl
  rw [e4,e3,QE (by omega) (by omega)]
 rw [F155_eq]
 simp (disch:=omega) only [N,subN,sub1,e2,gG]
 exact hs_L0 hc hr hlo hn (by omega) _ A (by omega) hA
end
end Go.D.StT
end
/- Partitions over elements of type 69. -/
section
set_option linter.unusedVariables false
set_option linter.unusedSimpArgs false
namespace Go.D.StT
open Go.D.Srt
def uA (cmp:E->E->Int) (pv x:E):Bool:=ltc cmp x pv
def vA (cmp:E->E->Int) (pv x:E):Bool:=!ltc cmp x pv
def uE (cmp:E->E->Int) (pv x:E):Bool:=!ltc cmp pv x
def vE (cmp:E->E->Int) (pv x:E):Bool:=ltc cmp pv x
theorem huvA (cmp:E->E->Int) (x y:E):vA cmp x y = !uA cmp x y:=rfl
theorem huvE (cmp:E->E->Int) (x y:E):vE cmp x y = !uE cmp x y:=by simp [uE,vE]
theorem nT {p:Prop} [Decidable p] (h:¬ p):(!decide p)=true:=by simp [h]
theorem nF {p:Prop} [Decidable p] (h:(!decide p)=true):¬ p:=by simpa using h
section
variable {cf : FuncId} {cmp : E -> E -> Int} (hc : ∀ (x y : E) (σ : Qa), Qv CC cf [val x, val y] σ = some (.p (.int .i64 (cmp x y))))
variable {r n lo : Nat} {σ : Qa}
include hc in
theorem upA0 (hr:r<σ.length) (hlo:lo<=r) (hn:n<=100000) {a j:Nat} {A:List E} (hA:A.length=n) (hj:j<n):∀ (k i:Nat),k=j+1-i->a+1<=i->i<=n->
  f161_L0 Qb lo (V r n) (N a) (.fn cf []) (N i) (N j) (W σ r A)=f161_L1 Qb lo (V r n) (N a) (.fn cf []) (N (upI (uA cmp (ge A a)) A k i j)) (N j) (W σ r A)
 | 0,i,hk,ha,hi=>by
  rw [f161_L0_eq Qb rfl,upI]
  simp (disch:=omega) only [V,N,QX,leF,gG]
 | k+1,i,hk,ha,hi=>by
  rw [f161_L0_eq Qb rfl,upI]
  by_cases h:cmp (ge A i) (ge A a)<0
  ·rw [if_pos ⟨by omega,decide_eq_true h⟩,<-upA0 hr hlo hn hA hj k (i+1) (by omega) (by omega) (by omega)]
   simp (disch:=omega) only [V,N,QX,leT,idxL,ldW,Qi,List.append_nil,hc,Qn,ltT,ltF,add1,gG]
  ·rw [if_neg (fun hh=>h (of_decide_eq_true hh.2))]
   simp (disch:=omega) only [V,N,QX,leT,idxL,ldW,Qi,List.append_nil,hc,Qn,ltT,ltF,add1,gG]
include hc in
theorem upA1 (hr:r<σ.length) (hlo:lo<=r) (hn:n<=100000) {a j:Nat} {A:List E} (hA:A.length=n) (hj:j<n):∀ (k i:Nat),k=j+1-i->a+1<=i->i<=n->
  f161_L3 Qb lo (V r n) (N a) (.fn cf []) (N i) (N j) (W σ r A)=f161_L4 Qb lo (V r n) (N a) (.fn cf []) (N (upI (uA cmp (ge A a)) A k i j)) (N j) (W σ r A)
 | 0,i,hk,ha,hi=>by
  rw [f161_L3_eq Qb rfl,upI]
  simp (disch:=omega) only [V,N,QX,leF,gG]
 | k+1,i,hk,ha,hi=>by
  rw [f161_L3_eq Qb rfl,upI]
  by_cases h:cmp (ge A i) (ge A a)<0
  ·rw [if_pos ⟨by omega,decide_eq_true h⟩,<-upA1 hr hlo hn hA hj k (i+1) (by omega) (by omega) (by omega)]
   simp (disch:=omega) only [V,N,QX,leT,idxL,ldW,Qi,List.append_nil,hc,Qn,ltT,ltF,add1,gG]
  ·rw [if_neg (fun hh=>h (of_decide_eq_true hh.2))]
   simp (disch:=omega) only [V,N,QX,leT,idxL,ldW,Qi,List.append_nil,hc,Qn,ltT,ltF,add1,gG]
include hc in
theorem upE (hr:r<σ.length) (hlo:lo<=r) (hn:n<=100000) {a j:Nat} {A:List E} (hA:A.length=n) (hj:j<n):∀ (k i:Nat),k=j+1-i->a+1<=i->i<=n->
  f160_L1 Qb lo (V r n) (N a) (.fn cf []) (N i) (N j) (W σ r A)=f160_L2 Qb lo (V r n) (N a) (.fn cf []) (N (upI (uE cmp (ge A a)) A k i j)) (N j) (W σ r A)
 | 0,i,hk,ha,hi=>by
  rw [f160_L1_eq Qb rfl,upI]
  simp (disch:=omega) only [V,N,QX,leF,gG]
 | k+1,i,hk,ha,hi=>by
  rw [f160_L1_eq Qb rfl,upI]
  by_cases h:¬ cmp (ge A a) (ge A i)<0
  ·rw [if_pos ⟨by omega,nT h⟩,<-upE hr hlo hn hA hj k (i+1) (by omega) (by omega) (by omega)]
   simp (disch:=omega) only [V,N,QX,leT,idxL,ldW,Qi,List.append_nil,hc,Qn,ltT,ltF,add1,gG]
  ·rw [if_neg (fun hh=>h (nF hh.2))]
   simp (disch:=omega) only [V,N,QX,leT,idxL,ldW,Qi,List.append_nil,hc,Qn,ltT,ltF,add1,gG]
def enA0 (σ:Qa) (r a i J:Nat) (A:List E):DV×Qa:=(.tuple [N J,.p (.bool true)],W σ r (swp A J a))
include hc in
theorem dnA0 (hr:r<σ.length) (hlo:lo<=r) (hn:n<=100000) {a i:Nat} {A:List E} (hA:A.length=n) (ha:a+1<=i) (ha2:a<n):∀ (k j:Nat),k=j+1-i->i<=j+1->j<n->
  f161_L1 Qb lo (V r n) (N a) (.fn cf []) (N i) (N j) (W σ r A) =
   if dnJ (vA cmp (ge A a)) A k i j<i then some (enA0 σ r a i (dnJ (vA cmp (ge A a)) A k i j) A)
   else f161_L2 Qb lo (V r n) (N a) (.fn cf []) (N (i+1)) (N (dnJ (vA cmp (ge A a)) A k i j-1)) (W σ r (swp A i (dnJ (vA cmp (ge A a)) A k i j)))
 | 0,j,hk,hi,hj=>by
  have h3:(A.set j (ge A a)).length=n:=by rw [QW]; exact hA
  rw [f161_L1_eq Qb rfl,dnJ,if_pos (by omega)]
  simp (disch:=omega) only [V,N,QX,leF,Zh,gtT,idxL,ldW,stW,gG,enA0,swp]
 | k+1,j,hk,hi,hj=>by
  have h3:(A.set i (ge A j)).length=n:=by rw [QW]; exact hA
  rw [f161_L1_eq Qb rfl,dnJ]
  by_cases h:¬ cmp (ge A j) (ge A a)<0
  ·rw [if_pos (show i<=j/\vA cmp (ge A a) (ge A j)=true from ⟨by omega,nT h⟩),<-dnA0 hr hlo hn hA ha ha2 k (j-1) (by omega) (by omega) (by omega)]
   simp (disch:=omega) only [V,N,QX,leT,idxL,ldW,Qi,List.append_nil,hc,Qn,ltT,ltF,sub1,gG]
  ·rw [if_neg (show ¬ (i<=j/\vA cmp (ge A a) (ge A j)=true) from fun hh=>h (nF hh.2)),if_neg (by omega)]
   simp (disch:=omega) only [V,N,QX,leT,idxL,ldW,Qi,List.append_nil,hc,Qn,ltT,ltF,Zh,gtF,stW,add1,sub1,swp,gG]
def enA1 (σ:Qa) (r a i J:Nat) (A:List E):DV×Qa:=(.tuple [N J,.p (.bool false)],W σ r (swp A J a))
include hc in
theorem dnA1 (hr:r<σ.length) (hlo:lo<=r) (hn:n<=100000) {a i:Nat} {A:List E} (hA:A.length=n) (ha:a+1<=i) (ha2:a<n):∀ (k j:Nat),k=j+1-i->i<=j+1->j<n->
  f161_L4 Qb lo (V r n) (N a) (.fn cf []) (N i) (N j) (W σ r A) =
   if dnJ (vA cmp (ge A a)) A k i j<i then some (enA1 σ r a i (dnJ (vA cmp (ge A a)) A k i j) A)
   else f161_L2 Qb lo (V r n) (N a) (.fn cf []) (N (i+1)) (N (dnJ (vA cmp (ge A a)) A k i j-1)) (W σ r (swp A i (dnJ (vA cmp (ge A a)) A k i j)))
 | 0,j,hk,hi,hj=>by
  have h3:(A.set j (ge A a)).length=n:=by rw [QW]; exact hA
  rw [f161_L4_eq Qb rfl,dnJ,if_pos (by omega)]
  simp (disch:=omega) only [V,N,QX,leF,Zh,gtT,idxL,ldW,stW,gG,enA1,swp]
 | k+1,j,hk,hi,hj=>by
  have h3:(A.set i (ge A j)).length=n:=by rw [QW]; exact hA
  rw [f161_L4_eq Qb rfl,dnJ]
  by_cases h:¬ cmp (ge A j) (ge A a)<0
  ·rw [if_pos (show i<=j/\vA cmp (ge A a) (ge A j)=true from ⟨by omega,nT h⟩),<-dnA1 hr hlo hn hA ha ha2 k (j-1) (by omega) (by omega) (by omega)]
   simp (disch:=omega) only [V,N,QX,leT,idxL,ldW,Qi,List.append_nil,hc,Qn,ltT,ltF,sub1,gG]
  ·rw [if_neg (show ¬ (i<=j/\vA cmp (ge A a) (ge A j)=true) from fun hh=>h (nF hh.2)),if_neg (by omega)]
   simp (disch:=omega) only [V,N,QX,leT,idxL,ldW,Qi,List.append_nil,hc,Qn,ltT,ltF,Zh,gtF,stW,add1,sub1,swp,gG]
def enE (σ:Qa) (r a i J:Nat) (A:List E):DV×Qa:=(N i,W σ r A)
include hc in
theorem dnE (hr:r<σ.length) (hlo:lo<=r) (hn:n<=100000) {a i:Nat} {A:List E} (hA:A.length=n) (ha:a+1<=i) (ha2:a<n):∀ (k j:Nat),k=j+1-i->i<=j+1->j<n->
  f160_L2 Qb lo (V r n) (N a) (.fn cf []) (N i) (N j) (W σ r A) =
   if dnJ (vE cmp (ge A a)) A k i j<i then some (enE σ r a i (dnJ (vE cmp (ge A a)) A k i j) A)
   else f160_L0 Qb lo (V r n) (N a) (.fn cf []) (N (i+1)) (N (dnJ (vE cmp (ge A a)) A k i j-1)) (W σ r (swp A i (dnJ (vE cmp (ge A a)) A k i j)))
 | 0,j,hk,hi,hj=>by
  have h3:(A.set j (ge A a)).length=n:=by rw [QW]; exact hA
  rw [f160_L2_eq Qb rfl,dnJ,if_pos (by omega)]
  simp (disch:=omega) only [V,N,QX,leF,Zh,gtT,idxL,ldW,stW,gG,enE,swp]
 | k+1,j,hk,hi,hj=>by
  have h3:(A.set i (ge A j)).length=n:=by rw [QW]; exact hA
  rw [f160_L2_eq Qb rfl,dnJ]
  by_cases h:cmp (ge A a) (ge A j)<0
  ·rw [if_pos (show i<=j/\vE cmp (ge A a) (ge A j)=true from ⟨by omega,decide_eq_true h⟩),<-dnE hr hlo hn hA ha ha2 k (j-1) (by omega) (by omega) (by omega)]
   simp (disch:=omega) only [V,N,QX,leT,idxL,ldW,Qi,List.append_nil,hc,Qn,ltT,ltF,sub1,gG]
  ·rw [if_neg (show ¬ (i<=j/\vE cmp (ge A a) (ge A j)=true) from fun hh=>h (of_decide_eq_true hh.2)),if_neg (by omega)]
   simp (disch:=omega) only [V,N,QX,leT,idxL,ldW,Qi,List.append_nil,hc,Qn,ltT,ltF,Zh,gtF,stW,add1,sub1,swp,gG]
include hc in
theorem lpA (hr:r<σ.length) (hlo:lo<=r) (hn:n<=100000) {a:Nat} (ha2:a<n):∀ (k i j:Nat) (A:List E),j+1-i<k->a+1<=i->i<=j+1->j<n->A.length=n->
  f161_L2 Qb lo (V r n) (N a) (.fn cf []) (N i) (N j) (W σ r A)=some (enA1 σ r a (prt (uA cmp) (vA cmp) a k i j A).1 (prt (uA cmp) (vA cmp) a k i j A).2.1 (prt (uA cmp) (vA cmp) a k i j A).2.2)
 | 0,i,j,A,hk,ha,hi,hj,hA=>by omega
 | k+1,i,j,A,hk,ha,hi,hj,hA=>by
  obtain ⟨a1,a2,a3,a4⟩:=Uz (q:=uA cmp (ge A a)) (A:=A) (j+1-i) i j (Nat.le_refl _) hi
  have h1:=upA1 hc hr hlo hn hA hj _ i rfl ha (by omega)
  obtain ⟨b1,b2,b3,b4⟩:=UE (q:=vA cmp (ge A a)) (A:=A) (j+1-upI (uA cmp (ge A a)) A (j+1-i) i j) (upI (uA cmp (ge A a)) A (j+1-i) i j) j (Nat.le_refl _) a2 (by omega)
  rw [f161_L2_eq Qb rfl,h1,prt]
  generalize upI (uA cmp (ge A a)) A (j+1-i) i j=i' at *
  have h2:=dnA1 hc hr hlo hn hA (show a+1<=i' by omega) ha2 _ j rfl a2 hj
  rw [h2]
  generalize dnJ (vA cmp (ge A a)) A (j+1-i') i' j=j' at *
  split
  ·rename_i hlt
   rfl
  ·rename_i hlt
   have c1:=a4 (by omega)
   have c2:=b4 (by omega)
   have hne:i'≠j':=by
    rintro rfl
    rw [huvA,c1] at c2
    exact absurd c2 (by decide)
   exact lpA hr hlo hn ha2 k (i'+1) (j' - 1) (swp A i' j') (by omega) (by omega) (by omega) (by omega) (by rw [Qy]; exact hA)
include hc in
theorem lpE (hr:r<σ.length) (hlo:lo<=r) (hn:n<=100000) {a:Nat} (ha2:a<n):∀ (k i j:Nat) (A:List E),j+1-i<k->a+1<=i->i<=j+1->j<n->A.length=n->
  f160_L0 Qb lo (V r n) (N a) (.fn cf []) (N i) (N j) (W σ r A)=some (enE σ r a (prt (uE cmp) (vE cmp) a k i j A).1 (prt (uE cmp) (vE cmp) a k i j A).2.1 (prt (uE cmp) (vE cmp) a k i j A).2.2)
 | 0,i,j,A,hk,ha,hi,hj,hA=>by omega
 | k+1,i,j,A,hk,ha,hi,hj,hA=>by
  obtain ⟨a1,a2,a3,a4⟩:=Uz (q:=uE cmp (ge A a)) (A:=A) (j+1-i) i j (Nat.le_refl _) hi
  have h1:=upE hc hr hlo hn hA hj _ i rfl ha (by omega)
  obtain ⟨b1,b2,b3,b4⟩:=UE (q:=vE cmp (ge A a)) (A:=A) (j+1-upI (uE cmp (ge A a)) A (j+1-i) i j) (upI (uE cmp (ge A a)) A (j+1-i) i j) j (Nat.le_refl _) a2 (by omega)
  rw [f160_L0_eq Qb rfl,h1,prt]
  generalize upI (uE cmp (ge A a)) A (j+1-i) i j=i' at *
  have h2:=dnE hc hr hlo hn hA (show a+1<=i' by omega) ha2 _ j rfl a2 hj
  rw [h2]
  generalize dnJ (vE cmp (ge A a)) A (j+1-i') i' j=j' at *
  split
  ·rename_i hlt
   rfl
  ·rename_i hlt
   have c1:=a4 (by omega)
   have c2:=b4 (by omega)
   have hne:i'≠j':=by
    rintro rfl
    rw [huvE,c1] at c2
    exact absurd c2 (by decide)
   exact lpE hr hlo hn ha2 k (i'+1) (j' - 1) (swp A i' j') (by omega) (by omega) (by omega) (by omega) (by rw [Qy]; exact hA)
include hc in
theorem pe_ok (hr:r<σ.length) (hlo:lo<=r) (hn:n<=100000) {a b p:Nat} (hab:a<b) (hb:b<=n) (hp:p<n) (A:List E) (hA:A.length=n) :
  CC lo 160 [V r n,N a,N b,N p,.fn cf []] (W σ r A)=some (enE σ r a (prt (uE cmp) (vE cmp) a (b-a+1) (a+1) (b-1) (swp A a p)).1 0 (prt (uE cmp) (vE cmp) a (b-a+1) (a+1) (b-1) (swp A a p)).2.2):=by
 refine F160_call ?_
 have h3:(A.set a (ge A p)).length=n:=by rw [QW]; exact hA
 rw [F160_eq]
 simp (disch:=omega) only [V,N,idxL,ldW,stW,add1,sub1,gG]
 exact lpE hc hr hlo hn (by omega) (b-a+1) (a+1) (b-1) (swp A a p) (by omega) (by omega) (by omega) (by omega) (by rw [Qy]; exact hA)
include hc in
theorem pa_ok (hr:r<σ.length) (hlo:lo<=r) (hn:n<=100000) {a b p:Nat} (hab:a<b) (hb:b<=n) (hp:p<n) (A:List E) (hA:A.length=n) :
  ∃ f:Bool,CC lo 161 [V r n,N a,N b,N p,.fn cf []] (W σ r A)=some (.tuple [N (prt (uA cmp) (vA cmp) a (b-a+1) (a+1) (b-1) (swp A a p)).2.1,.p (.bool f)],W σ r (swp (prt (uA cmp) (vA cmp) a (b-a+1) (a+1) (b-1) (swp A a p)).2.2 (prt (uA cmp) (vA cmp) a (b-a+1) (a+1) (b-1) (swp A a p)).2.1 a)):=by
 have h3:(A.set a (ge A p)).length=n:=by rw [QW]; exact hA
 have hB:(swp A a p).length=n:=by rw [Qy]; exact hA
 have key:∃ f:Bool,f161_L0 Qb lo (V r n) (N a) (.fn cf []) (N (a+1)) (N (b-1)) (W σ r (swp A a p))=some (.tuple [N (prt (uA cmp) (vA cmp) a (b-a+1) (a+1) (b-1) (swp A a p)).2.1,.p (.bool f)],W σ r (swp (prt (uA cmp) (vA cmp) a (b-a+1) (a+1) (b-1) (swp A a p)).2.2 (prt (uA cmp) (vA cmp) a (b-a+1) (a+1) (b-1) (swp A a p)).2.1 a)):=by
  generalize swp A a p=B at *
  have hi:a+1<=b-1+1:=by omega
  obtain ⟨a1,a2,a3,a4⟩:=Uz (q:=uA cmp (ge B a)) (A:=B) (b-1+1-(a+1)) (a+1) (b-1) (Nat.le_refl _) hi
  have h1:=upA0 hc hr hlo hn hB (show b-1<n by omega) _ (a+1) rfl (Nat.le_refl _) (by omega)
  obtain ⟨b1,b2,b3,b4⟩:=UE (q:=vA cmp (ge B a)) (A:=B) (b-1+1-upI (uA cmp (ge B a)) B (b-1+1-(a+1)) (a+1) (b-1)) (upI (uA cmp (ge B a)) B (b-1+1-(a+1)) (a+1) (b-1)) (b-1) (Nat.le_refl _) a2 (by omega)
  rw [h1,prt]
  generalize upI (uA cmp (ge B a)) B (b-1+1-(a+1)) (a+1) (b-1)=i' at *
  have h2:=dnA0 hc hr hlo hn hB (show a+1<=i' by omega) (by omega) _ (b-1) rfl a2 (by omega)
  rw [h2]
  generalize dnJ (vA cmp (ge B a)) B (b-1+1-i') i' (b-1)=j' at *
  split
  ·rename_i hlt
   exact ⟨true,rfl⟩
  ·rename_i hlt
   have c1:=a4 (by omega)
   have c2:=b4 (by omega)
   have hne:i'≠j':=by
    rintro rfl
    rw [huvA,c1] at c2
    exact absurd c2 (by decide)
   exact ⟨false,lpA hc hr hlo hn (by omega) (b-a) (i'+1) (j' - 1) (swp B i' j') (by omega) (by omega) (by omega) (by omega) (by rw [Qy]; exact hB)⟩
 obtain ⟨f,hf⟩:=key
 refine ⟨f,F161_call ?_⟩
 rw [F161_eq]
 simp (disch:=omega) only [V,N,idxL,ldW,stW,add1,sub1,gG]
 exact hf
end
end Go.D.StT
end
/- Partial insertion over elements of type 69. -/
section
set_option linter.unusedVariables false
set_option linter.unusedSimpArgs false
namespace Go.D.StT
open Go.D.Srt
theorem insUp_len (lt:E->E->Bool):∀ (k j:Nat) (A:List E),(WV lt k j A).length=A.length
 | 0,j,A=>rfl
 | k+1,j,A=>by
  unfold WV
  split
  ·rw [insUp_len lt k,Qy]
  ·rfl
section
variable {cf : FuncId} {cmp : E -> E -> Int} (hc : ∀ (x y : E) (σ : Qa), Qv CC cf [val x, val y] σ = some (.p (.int .i64 (cmp x y))))
variable {r n lo : Nat} {σ : Qa}
include hc in
theorem pi_L3 (hr:r<σ.length) (hlo:lo<=r) (hn:n<=100000) {a b i c:Nat} (hb:b<=n) (hcc:c<=1000):∀ (k j:Nat) (A:List E),k=b-j->1<=j->A.length=n->
  f159_L3 Qb lo (V r n) (N a) (N b) (.fn cf []) (N i) (N c) (N j) (W σ r A)=f159_L0 Qb lo (V r n) (N a) (N b) (.fn cf []) (N i) (N (c+1)) (W σ r (WV (ltc cmp) k j A))
 | 0,j,A,hk,hj,hA=>by
  rw [f159_L3_eq Qb rfl,WV]
  simp (disch:=omega) only [V,N,Qn,ltF,gG,f159_J1_eq,add1]
 | k+1,j,A,hk,hj,hA=>by
  have h3:(A.set j (ge A (j-1))).length=n:=by rw [QW]; exact hA
  rw [f159_L3_eq Qb rfl,WV]
  by_cases h:cmp (ge A j) (ge A (j-1))<0
  ·rw [if_pos (show ltc cmp _ _=true from decide_eq_true h),<-pi_L3 hr hlo hn hb hcc k (j+1) (swp A j (j-1)) (by omega) (by omega) (by rw [Qy]; exact hA)]
   simp (disch:=omega) only [V,N,Qn,ltT,sub1,idxL,ldW,stW,Qi,List.append_nil,hc,gG,add1,swp]
  ·rw [if_neg (show ¬ ltc cmp _ _=true from fun e=>h (of_decide_eq_true e))]
   simp (disch:=omega) only [V,N,Qn,ltT,ltF,sub1,idxL,ldW,stW,Qi,List.append_nil,hc,gG,f159_J1_eq,add1]
include hc in
theorem Jp (hr:r<σ.length) (hlo:lo<=r) (hn:n<=100000) {a b i c:Nat} (hb:b<=n) (hi:i<=b) (hcc:c<=1000) (A:List E) (hA:A.length=n) (x11 x39 x40 x41 x42 x43 x44 x45 x46 x47 x48 x49 x50 x51 x52 x53 x54 x55 x56 x57 x58 x59 x60 x61 x62 x63 x64 x65 x66 x67 x68 x69 x70 x71 x72 x73 x74 x75 x76 x77 x78 x79 x80 x81 x82 x83 x84 x85 x86 x87 x88 x89 x90 x91 x92 x93 x94 x95 x96 x97 x98 x99 x100:DV) :
  f159_J0 Qb lo (V r n) (N a) (N b) (.fn cf []) (N i) (N c) x11 x39 x40 x41 x42 x43 x44 x45 x46 x47 x48 x49 x50 x51 x52 x53 x54 x55 x56 x57 x58 x59 x60 x61 x62 x63 x64 x65 x66 x67 x68 x69 x70 x71 x72 x73 x74 x75 x76 x77 x78 x79 x80 x81 x82 x83 x84 x85 x86 x87 x88 x89 x90 x91 x92 x93 x94 x95 x96 x97 x98 x99 x100 (W σ r A)=f159_L0 Qb lo (V r n) (N a) (N b) (.fn cf []) (N i) (N (c+1)) (W σ r (if 2<=b-i then WV (ltc cmp) (b-(i+1)) (i+1) A else A)):=by
 have h3:=pi_L3 hc hr hlo hn (a:=a) (i:=i) hb hcc (b-(i+1)) (i+1) A rfl (by omega) hA
 rw [f159_J0_eq Qb]
 by_cases h:2<=b-i
 ·rw [if_pos h,<-h3]
  simp (disch:=omega) only [V,N,subN,Zj,geT,gG,add1]
 ·rw [if_neg h]
  simp (disch:=omega) only [V,N,subN,Zj,geF,gG,add1,f159_J1_eq]
include hc in
theorem pi_L2 (hr:r<σ.length) (hlo:lo<=r) (hn:n<=100000) {a b i c:Nat} (hb:b<=n) (hi:i<=b) (hcc:c<=1000):∀ (j:Nat) (A:List E),j<n->A.length=n->
  f159_L2 Qb lo (V r n) (N a) (N b) (.fn cf []) (N i) (N c) (N j) (W σ r A) =
   f159_L0 Qb lo (V r n) (N a) (N b) (.fn cf []) (N i) (N (c+1)) (W σ r (if 2<=b-i then WV (ltc cmp) (b-(i+1)) (i+1) (Zb (ltc cmp) 0 j A) else Zb (ltc cmp) 0 j A))
 | 0,A,hj,hA=>by
  rw [f159_L2_eq Qb rfl,Zb]
  simp (disch:=omega) only [V,N,Zj,geF,gG]
  exact Jp hc hr hlo hn hb hi hcc A hA _ _ _ _ _ _ _ _ _ _ _ _ _ _ _ _ _ _ _ _ _ _ _ _ _ _ _ _ _ _ _ _ _ _ _ _ _ _ _ _ _ _ _ _ _ _ _ _ _ _ _ _ _ _ _ _ _ _ _ _ _ _ _
 | j+1,A,hj,hA=>by
  have h3:(A.set (j+1) (ge A j)).length=n:=by rw [QW]; exact hA
  rw [f159_L2_eq Qb rfl]
  by_cases h:cmp (ge A (j+1)) (ge A j)<0
  ·have e:Zb (ltc cmp) 0 (j+1) A=Zb (ltc cmp) 0 j (swp A (j+1) j):=by
    rw [Zb,if_pos ⟨by omega,decide_eq_true h⟩]
   rw [e,<-pi_L2 hr hlo hn hb hi hcc j (swp A (j+1) j) (by omega) (by rw [Qy]; exact hA)]
   simp (disch:=omega) only [V,N,Zj,geT,Qn,ltT,sub1,Nat.add_sub_cancel,idxL,ldW,stW,Qi,List.append_nil,hc,gG,swp]
  ·have e:Zb (ltc cmp) 0 (j+1) A=A:=by
    rw [Zb,if_neg (fun hh=>h (of_decide_eq_true hh.2))]
   rw [e]
   simp (disch:=omega) only [V,N,Zj,geT,Qn,ltF,sub1,Nat.add_sub_cancel,idxL,ldW,stW,Qi,List.append_nil,hc,gG]
   exact Jp hc hr hlo hn hb hi hcc A hA _ _ _ _ _ _ _ _ _ _ _ _ _ _ _ _ _ _ _ _ _ _ _ _ _ _ _ _ _ _ _ _ _ _ _ _ _ _ _ _ _ _ _ _ _ _ _ _ _ _ _ _ _ _ _ _ _ _ _ _ _ _ _
def pA3 (cmp:E->E->Int) (a b i:Nat) (A:List E):List E:=
 let A1:=swp A i (i-1)
 let A2:=if 2<=i-a then Zb (ltc cmp) 0 (i-1) A1 else A1
 if 2<=b-i then WV (ltc cmp) (b-(i+1)) (i+1) A2 else A2
include hc in
theorem pi_L1 (hr:r<σ.length) (hlo:lo<=r) (hn:n<=100000) {a b c:Nat} (hb:b<=n) (hcc:c<=1000) {A:List E} (hA:A.length=n):∀ (k i:Nat),k=b-i->a+1<=i->i<=b->
  f159_L1 Qb lo (V r n) (N a) (N b) (.fn cf []) (N i) (N c) (W σ r A) =
   if Wf (ltc cmp) A b k i=b then some (.p (.bool true),W σ r A) else if b-a<50 then some (.p (.bool false),W σ r A)
   else f159_L0 Qb lo (V r n) (N a) (N b) (.fn cf []) (N (Wf (ltc cmp) A b k i)) (N (c+1)) (W σ r (pA3 cmp a b (Wf (ltc cmp) A b k i) A))
 | 0,i,hk,ha,hi=>by
  rw [f159_L1_eq Qb rfl,Wf,if_pos (by omega)]
  simp (disch:=omega) only [V,N,Qn,ltF,QV,eqT,gG]
 | k+1,i,hk,ha,hi=>by
  rw [f159_L1_eq Qb rfl,Wf]
  by_cases h:cmp (ge A i) (ge A (i-1))<0
  ·rw [if_neg (show ¬ (i<b/\ltc cmp (ge A i) (ge A (i-1))=false) from fun hh=>of_decide_eq_false hh.2 h),if_neg (by omega)]
   by_cases h5:b-a<50
   ·rw [if_pos h5]
    simp (disch:=omega) only [V,N,Qn,ltT,sub1,subN,idxL,ldW,Qi,List.append_nil,hc,QV,eqF,gG]
   ·rw [if_neg h5]
    have h3:(A.set i (ge A (i-1))).length=n:=by rw [QW]; exact hA
    by_cases h6:2<=i-a
    ·have e:=pi_L2 hc hr hlo hn (a:=a) hb (show i<=b from hi) hcc (i-1) (swp A i (i-1)) (by omega) (by rw [Qy]; exact hA)
     have e2:pA3 cmp a b i A=if 2<=b-i then WV (ltc cmp) (b-(i+1)) (i+1) (Zb (ltc cmp) 0 (i-1) (swp A i (i-1))) else Zb (ltc cmp) 0 (i-1) (swp A i (i-1)):=by
      simp only [pA3,if_pos h6]
     rw [e2,<-e]
     simp (disch:=omega) only [V,N,Qn,ltT,ltF,sub1,subN,idxL,ldW,stW,Qi,List.append_nil,hc,QV,eqF,Zj,geT,gG,swp]
    ·have e2:pA3 cmp a b i A=if 2<=b-i then WV (ltc cmp) (b-(i+1)) (i+1) (swp A i (i-1)) else swp A i (i-1):=by
      simp only [pA3,if_neg h6]
     rw [e2]
     simp (disch:=omega) only [V,N,Qn,ltT,ltF,sub1,subN,idxL,ldW,stW,Qi,List.append_nil,hc,QV,eqF,Zj,geF,gG]
     exact Jp hc hr hlo hn (a:=a) hb (show i<=b from hi) hcc (swp A i (i-1)) (by rw [Qy]; exact hA) _ _ _ _ _ _ _ _ _ _ _ _ _ _ _ _ _ _ _ _ _ _ _ _ _ _ _ _ _ _ _ _ _ _ _ _ _ _ _ _ _ _ _ _ _ _ _ _ _ _ _ _ _ _ _ _ _ _ _ _ _ _ _
  ·rw [if_pos (show i<b/\ltc cmp (ge A i) (ge A (i-1))=false from ⟨by omega,decide_eq_false h⟩),<-pi_L1 hr hlo hn hb hcc hA k (i+1) (by omega) (by omega) (by omega)]
   simp (disch:=omega) only [V,N,Qn,ltT,ltF,sub1,idxL,ldW,Qi,List.append_nil,hc,add1,gG]
theorem pA3_len (a b i:Nat) (A:List E):(pA3 cmp a b i A).length=A.length:=by
 unfold pA3
 simp only
 split <;> split <;> simp only [insUp_len,Vm,Qy]
include hc in
theorem pi_L0 (hr:r<σ.length) (hlo:lo<=r) (hn:n<=100000) {a b:Nat} (hb:b<=n) (hab:a<b):∀ (s i:Nat) (A:List E),s<=5->a+1<=i->i<=b->A.length=n->
  f159_L0 Qb lo (V r n) (N a) (N b) (.fn cf []) (N i) (N (5-s)) (W σ r A)=some (.p (.bool (pins (ltc cmp) a b s i A).1),W σ r (pins (ltc cmp) a b s i A).2)
 | 0,i,A,hs,ha,hi,hA=>by
  rw [f159_L0_eq Qb rfl,pins]
  simp (disch:=omega) only [V,N,Qn,ltF,gG]
 | s+1,i,A,hs,ha,hi,hA=>by
  have h1:=pi_L1 hc hr hlo hn (c:=5-(s+1)) hb (by omega) hA (b-i) i rfl ha hi
  have hle:i<=Wf (ltc cmp) A b (b-i) i/\Wf (ltc cmp) A b (b-i) i<=b:=scan_le (b-i) i rfl hi
  rw [f159_L0_eq Qb rfl,pins]
  have e:f159_L1 Qb lo (V r n) (N a) (N b) (.fn cf []) (N i) (N (5-(s+1))) (W σ r A)=_:=h1
  have e5:decide (((5-(s+1):Nat):Int)<5)=true:=decide_eq_true (by omega)
  simp only [Qn,e5,gG,e]
  generalize Wf (ltc cmp) A b (b-i) i=i' at *
  split
  ·rfl
  ·split
   ·rfl
   ·have ih:=pi_L0 hr hlo hn hb hab s i' (pA3 cmp a b i' A) (by omega) (by omega) (by omega) (by rw [pA3_len]; exact hA)
    rw [show 5-(s+1)+1=5-s by omega]
    exact ih
where
 scan_le {A:List E} {b:Nat}:∀ (k i:Nat),k=b-i->i<=b->i<=Wf (ltc cmp) A b k i/\Wf (ltc cmp) A b k i<=b
 | 0,i,hk,hi=>⟨Nat.le_refl _,hi⟩
 | k+1,i,hk,hi=>by
  unfold Wf
  split
  ·have:=scan_le (A:=A) (b:=b) k (i+1) (by omega) (by omega)
   exact ⟨by omega,this.2⟩
  ·exact ⟨Nat.le_refl _,hi⟩
include hc in
theorem pi_ok (hr:r<σ.length) (hlo:lo<=r) (hn:n<=100000) {a b:Nat} (hb:b<=n) (hab:a<b) (A:List E) (hA:A.length=n) :
  CC lo 159 [V r n,N a,N b,.fn cf []] (W σ r A)=some (.p (.bool (pins (ltc cmp) a b 5 (a+1) A).1),W σ r (pins (ltc cmp) a b 5 (a+1) A).2):=by
 refine F159_call ?_
 rw [F159_eq]
 simp (disch:=omega) only [N,add1,gG]
 exact pi_L0 hc hr hlo hn hb hab 5 (a+1) A (by omega) (by omega) (by omega) hA
end
end Go.D.StT
end
/- Reversing, and the choice of a pivot, over elements of type 69. -/
section
set_option linter.unusedVariables false
set_option linter.unusedSimpArgs false
namespace Go.D.StT
open Go.D.Srt
section
variable {cf : FuncId} {cmp : E -> E -> Int} (hc : ∀ (x y : E) (σ : Qa), Qv CC cf [val x, val y] σ = some (.p (.int .i64 (cmp x y))))
variable {r n lo : Nat} {σ : Qa}
theorem rv_L0 (hr:r<σ.length) (hlo:lo<=r) (hn:n<=100000) {a b:Nat} (hb:b<=n):∀ (k i j:Nat) (A:List E),j-i<=k->a<=i->j<b->A.length=n->
  ∃ B,RP a b A B/\f158_L0 Qb lo (V r n) (N i) (N j) (W σ r A)=some (.tuple [],W σ r B)
 | 0,i,j,A,hk,ha,hj,hA=>by
  refine ⟨A,RP.refl _ _ _,?_⟩
  rw [f158_L0_eq Qb rfl]
  simp (disch:=omega) only [V,N,Qn,ltF,gG]
 | k+1,i,j,A,hk,ha,hj,hA=>by
  by_cases h:i<j
  ·obtain ⟨B,h1,h2⟩:=rv_L0 hr hlo hn (a:=a) hb k (i+1) (j-1) (swp A i j) (by omega) (by omega) (by omega) (by rw [Qy]; exact hA)
   refine ⟨B,(RP.swap (a:=a) (b:=b) (i:=i) (j:=j) ⟨ha,by omega⟩ ⟨by omega,hj⟩ (by omega)).trans h1,?_⟩
   have h3:(A.set i (ge A j)).length=n:=by rw [QW]; exact hA
   rw [f158_L0_eq Qb rfl,<-h2]
   simp (disch:=omega) only [V,N,Qn,ltT,idxL,ldW,stW,add1,sub1,gG,swp]
  ·refine ⟨A,RP.refl _ _ _,?_⟩
   rw [f158_L0_eq Qb rfl]
   simp (disch:=omega) only [V,N,Qn,ltF,gG]
theorem rv_ok (hr:r<σ.length) (hlo:lo<=r) (hn:n<=100000) {a b:Nat} (hab:a<b) (hb:b<=n) (A:List E) (hA:A.length=n) (y:DV) :
  ∃ B,RP a b A B/\CC lo 158 [V r n,N a,N b,y] (W σ r A)=some (.tuple [],W σ r B):=by
 obtain ⟨B,h1,h2⟩:=rv_L0 hr hlo hn (a:=a) hb (b-1-a) a (b-1) A (Nat.le_refl _) (Nat.le_refl _) (by omega) hA
 refine ⟨B,h1,F158_call ?_⟩
 rw [F158_eq]
 simp (disch:=omega) only [N,sub1,gG]
 exact h2
def Q (σ:Qa) (r:Nat) (A:List E) (k:Int):Qa:=W (σ++[Row.mix [.p (.int .i64 k)]]) r A
theorem Q_load (hr:r<σ.length) (A:List E) (k:Int):load PP 3 (.ptr σ.length 0) (Q σ r A k)=some (.p (.int .i64 k)):=by
 rw [QF,Qc (off:=0) (cs:=[.p (.int .i64 k)]) ?_ rfl]
 exact Qu QB (by omega)
theorem s3i:size? PP 3=some 1:=Eq.trans (by kernel_rfl) rfl
theorem Q_store (hr:r<σ.length) (hlo:lo<=r) (A:List E) (k k':Int):store PP lo 3 (.ptr σ.length 0) (.p (.int .i64 k')) (Q σ r A k)=some (Q σ r A k'):=by
 have h1:(Q σ r A k)[σ.length]?=some (.mix [.p (.int .i64 k)]):=Qu QB (by omega)
 have h2:lo<=σ.length:=by omega
 have h3:(Q σ r A k).set σ.length (.mix [.p (.int .i64 k')])=Q σ r A k':=by
  unfold Q
  rw [W,List.set_comm _ _ (by omega),List.set_append_right _ _ (Nat.le_refl _),Nat.sub_self]
  rfl
 simp only [store,s3i,DV.cells,List.length_singleton,if_true,Zo,h2,h1]
 rw [<-h3]
 rfl
include hc in
theorem Jq (hr:r<σ.length) (hlo:lo<=r) {i j:Nat} (hi:i<n) (hj:j<n) {A:List E} (hA:A.length=n) (k:Int) :
  ∃ i' j' k',CC lo 167 [V r n,N i,N j,.ptr σ.length 0,.fn cf []] (Q σ r A k)=some (.tuple [N i',N j'],Q σ r A k')/\((i'=i/\j'=j)\/(i'=j/\j'=i)):=by
 have hr':r<(σ++[Row.mix [.p (.int .i64 k)]]).length:=by simp; omega
 by_cases h:cmp (ge A j) (ge A i)<0
 ·refine ⟨j,i,IntKind.wrap .i64 (k+1),F167_call ?_,.inr ⟨rfl,rfl⟩⟩
  rw [F167_eq]
  have e1:=Q_load hr A k
  have e2:=Q_store hr hlo A k (IntKind.wrap .i64 (k+1))
  have e3:∀ s off,QY (.ptr s off)=some (.ptr s off):=fun _ _=>rfl
  have e4:∀ i,i<A.length->load PP 69 (.ptr r (i*3)) (Q σ r A k)=some (val (ge A i)):=fun i hi=>ldW hr' hi
  simp (disch:=omega) only [V,N,idxL,e4,Qi,List.append_nil,hc,Qn,ltT,gG,e3,e1,Wa,e2]
 ·refine ⟨i,j,k,F167_call ?_,.inl ⟨rfl,rfl⟩⟩
  rw [F167_eq]
  have e4:∀ i,i<A.length->load PP 69 (.ptr r (i*3)) (Q σ r A k)=some (val (ge A i)):=fun i hi=>ldW hr' hi
  simp (disch:=omega) only [V,N,idxL,e4,Qi,List.append_nil,hc,Qn,ltF,gG]
theorem Jw (x y:DV):Qj (.tuple [x,y]) 0=some x:=rfl
theorem Jv (x y:DV):Qj (.tuple [x,y]) 1=some y:=rfl
include hc in
theorem me_ok (hr:r<σ.length) (hlo:lo<=r) {i j l:Nat} (hi:i<n) (hj:j<n) (hl:l<n) {A:List E} (hA:A.length=n) (k:Int) :
  ∃ m k',CC lo 166 [V r n,N i,N j,N l,.ptr σ.length 0,.fn cf []] (Q σ r A k)=some (N m,Q σ r A k')/\(m=i\/m=j\/m=l):=by
 obtain ⟨i1,j1,k1,e1,h1⟩:=Jq hc hr hlo hi hj hA k
 obtain ⟨i2,j2,k2,e2,h2⟩:=Jq hc hr hlo (i:=j1) (j:=l) (by omega) hl hA k1
 obtain ⟨i3,j3,k3,e3,h3⟩:=Jq hc hr hlo (i:=i1) (j:=i2) (by omega) (by omega) hA k2
 refine ⟨j3,k3,F166_call ?_,by omega⟩
 rw [F166_eq]
 simp only [Qq,List.append_nil,e1,e2,e3,gG,Jw,Jv]
include hc in
theorem Jr (hr:r<σ.length) (hlo:lo<=r) (hn:n<=100000) {i:Nat} (h0:1<=i) (hi:i+1<n) {A:List E} (hA:A.length=n) (k:Int) :
  ∃ m k',CC lo 165 [V r n,N i,.ptr σ.length 0,.fn cf []] (Q σ r A k)=some (N m,Q σ r A k')/\i-1<=m/\m<=i+1:=by
 obtain ⟨m,k1,e1,h1⟩:=me_ok hc hr hlo (i:=i-1) (j:=i) (l:=i+1) (by omega) (by omega) hi hA k
 refine ⟨m,k1,F165_call ?_,by omega⟩
 rw [F165_eq]
 simp only [N] at e1
 simp (disch:=omega) only [N,sub1,add1,Qq,List.append_nil,e1,gG]
theorem cp_J1 (hr:r<σ.length) (A:List E) (k:Int) (p:Nat) (x0 x1 x2 x3 x8 x9 x10 x12 x14 x15 x16 x17 x18 x19 x20 x21 x22 x23 x24 x25 x26 x27 x28 x29 x30 x31 x32 x33 x34 x35 x36 x37 x38 x39 x40 x41 x42 x43 x44 x45 x46 x47 x48 x49 x50 x51 x52 x53 x54:DV) :
  ∃ h:Int,f157_J1 Qb lo x0 x1 x2 x3 x8 x9 x10 (.ptr σ.length 0) x12 (N p) x14 x15 x16 x17 x18 x19 x20 x21 x22 x23 x24 x25 x26 x27 x28 x29 x30 x31 x32 x33 x34 x35 x36 x37 x38 x39 x40 x41 x42 x43 x44 x45 x46 x47 x48 x49 x50 x51 x52 x53 x54 (Q σ r A k)=some (.tuple [N p,.p (.int .i64 h)],Q σ r A k):=by
 rw [f157_J1_eq Qb]
 simp only [Q_load hr,QV,gG]
 by_cases h1:k=0
 ·exact ⟨1,by simp only [eqT h1,gG]⟩
 ·by_cases h2:k=12
  ·exact ⟨2,by simp only [eqF h1,eqT h2,gG]⟩
  ·exact ⟨0,by simp only [eqF h1,eqF h2,gG]⟩
include hc in
theorem cp_J0 (hr:r<σ.length) (hlo:lo<=r) {i j l:Nat} (hi:i<n) (hj:j<n) (hl:l<n) {A:List E} (hA:A.length=n) (k:Int) (x1 x2 x8 x9 x10 x15 x16 x17 x18 x19 x20 x21 x22 x23 x24 x25 x26 x27 x28 x29 x30 x31 x32 x33 x34 x35 x36 x37 x38 x39 x40 x41 x42 x43 x44 x45 x46 x47 x48:DV) :
  ∃ m h k',f157_J0 Qb lo (V r n) x1 x2 (.fn cf []) x8 x9 x10 (.ptr σ.length 0) (N i) (N j) (N l) x15 x16 x17 x18 x19 x20 x21 x22 x23 x24 x25 x26 x27 x28 x29 x30 x31 x32 x33 x34 x35 x36 x37 x38 x39 x40 x41 x42 x43 x44 x45 x46 x47 x48 (Q σ r A k)=some (.tuple [N m,.p (.int .i64 h)],Q σ r A k')/\(m=i\/m=j\/m=l):=by
 obtain ⟨m,k',e1,h1⟩:=me_ok hc hr hlo hi hj hl hA k
 rw [f157_J0_eq Qb]
 simp only [Qq,List.append_nil,e1,gG]
 obtain ⟨h,e2⟩:=cp_J1 (lo:=lo) hr A k' m _ _ _ _ _ _ _ _ _ _ _ _ _ _ _ _ _ _ _ _ _ _ _ _ _ _ _ _ _ _ _ _ _ _ _ _ _ _ _ _ _ _ _ _ _ _ _ _ _
 exact ⟨m,h,k',e2,h1⟩
theorem quo4 {l:Nat} (h:l<=1000000):binOp PP .quo 3 (.p (.int .i64 (l:Nat))) (.p (.int .i64 4))=some (.p (.int .i64 ((l / 4:Nat):Int))):=by
 have e3:((l:Nat):Int).tdiv 4=((l / 4:Nat):Int):=by rw [Int.tdiv_eq_ediv_of_nonneg (by omega)]; omega
 have e4:binOp PP .quo 3 (.p (.int .i64 ((l:Nat):Int))) (.p (.int .i64 4))=some (.p (.int .i64 (IntKind.wrap .i64 (((l:Nat):Int).tdiv 4)))):=Eq.trans rfl rfl
 rw [e4,e3,QE (by omega) (by omega)]
theorem mulC {a c:Nat} (h:a<=1000000) (hc:c<=3):binOp PP .mul 3 (.p (.int .i64 (a:Nat))) (.p (.int .i64 (c:Nat)))=some (.p (.int .i64 ((a*c:Nat):Int))):=by
 have:a*c<=1000000*3:=Nat.mul_le_mul h hc
 rw [b_mul,QE (by have:=Int.natCast_nonneg (a*c); rw [Int.natCast_mul] at this; omega) (by rw [<-Int.natCast_mul]; omega)]
 rfl
theorem mul1 {a:Nat} (h:a<=1000000):binOp PP .mul 3 (.p (.int .i64 (a:Nat))) (.p (.int .i64 1))=some (.p (.int .i64 ((a:Nat):Int))):=(mulC (c:=1) h (by omega)).trans (by rw [Nat.mul_one])
theorem mulB {a:Nat} (h:a<=1000000):binOp PP .mul 3 (.p (.int .i64 (a:Nat))) (.p (.int .i64 2))=some (.p (.int .i64 ((a*2:Nat):Int))):=mulC (c:=2) h (by omega)
theorem mulD {a:Nat} (h:a<=1000000):binOp PP .mul 3 (.p (.int .i64 (a:Nat))) (.p (.int .i64 3))=some (.p (.int .i64 ((a*3:Nat):Int))):=mulC (c:=3) h (by omega)
theorem z3:Qx PP 3=some [.p (.int .i64 0)]:=Eq.trans (by kernel_rfl) rfl
include hc in
theorem cp_ok (hr:r<σ.length) (hlo:lo<=r) (hn:n<=100000) {a b:Nat} (hab:a+12<b) (hb:b<=n) {A:List E} (hA:A.length=n) :
  ∃ p h k',CC lo 157 [V r n,N a,N b,.fn cf []] (W σ r A)=some (.tuple [N p,.p (.int .i64 h)],Q σ r A k')/\a<=p/\p<b:=by
 have hw:(W σ r A)++[Row.mix [.p (.int .i64 0)]]=Q σ r A 0:=W_snoc hr A _
 have hl:List.length (W σ r A)=σ.length:=W_len _ _ _
 by_cases h50:b-a<50
 ·obtain ⟨m,h,k',e1,h1⟩:=cp_J0 (lo:=lo) hc hr hlo (i:=a+(b-a) / 4) (j:=a+(b-a) / 4*2) (l:=a+(b-a) / 4*3) (by omega) (by omega) (by omega) hA 0 _ _ _ _ _ _ _ _ _ _ _ _ _ _ _ _ _ _ _ _ _ _ _ _ _ _ _ _ _ _ _ _ _ _ _ _ _ _ _
  refine ⟨m,h,k',F157_call ?_,by omega,by omega⟩
  rw [F157_eq]
  simp (disch:=omega) only [V,N,subN,z3,quo4,mul1,mulB,mulD,addN,Zj,geT,geF,gG,hw,hl]
  exact e1
 ·obtain ⟨m1,k1,f1,g1⟩:=Jr hc hr hlo hn (i:=a+(b-a) / 4) (by omega) (by omega) hA 0
  obtain ⟨m2,k2,f2,g2⟩:=Jr hc hr hlo hn (i:=a+(b-a) / 4*2) (by omega) (by omega) hA k1
  obtain ⟨m3,k3,f3,g3⟩:=Jr hc hr hlo hn (i:=a+(b-a) / 4*3) (by omega) (by omega) hA k2
  obtain ⟨m,h,k',e1,h1⟩:=cp_J0 (lo:=lo) hc hr hlo (i:=m1) (j:=m2) (l:=m3) (by omega) (by omega) (by omega) hA k3 _ _ _ _ _ _ _ _ _ _ _ _ _ _ _ _ _ _ _ _ _ _ _ _ _ _ _ _ _ _ _ _ _ _ _ _ _ _ _
  refine ⟨m,h,k',F157_call ?_,by omega,by omega⟩
  rw [F157_eq]
  simp only [V,N] at f1 f2 f3
  simp (disch:=omega) only [V,N,subN,z3,quo4,mul1,mulB,mulD,addN,Zj,geT,gG,hw,hl,Qq,List.append_nil]
  rw [f1]
  simp only [gG]
  rw [f2]
  simp only [gG]
  rw [f3]
  simp only [gG]
  exact e1
end
end Go.D.StT
end
/- The length of numbers in bits, the library's small random numbers, and the breaking of patterns. -/
section
set_option linter.unusedVariables false
set_option linter.unusedSimpArgs false
namespace Go.D.StT
open Go.D.Srt
theorem tab_ok:(List.range 256).all (fun m=>match UJ[m]? with | some b=>decide (2 ^ b.toNat<=2*max m 1)&&decide (b.toNat<=8) | none=>false)=true:=by decide +kernel
theorem tab_at {m:Nat} (h:m<256):∃ b,UJ[m]?=some b/\2 ^ b.toNat<=2*max m 1/\b.toNat<=8:=by
 have h1:=List.all_eq_true.1 tab_ok m (List.mem_range.2 h)
 cases e:UJ[m]? with
 | none=>rw [e] at h1; simp at h1
 | some b=>
  rw [e] at h1
  simp only [Bool.and_eq_true,decide_eq_true_eq] at h1
  exact ⟨b,rfl,h1⟩
theorem UK {x:Int} (h0:0<=x) (h1:x<18446744073709551616):IntKind.wrap .u64 x=x:=by
 simp [IntKind.wrap,IntKind.signed,IntKind.bits]
 omega
theorem wrapB {x:Int} (h0:0<=x) (h1:x<256):IntKind.wrap .u8 x=x:=by
 simp [IntKind.wrap,IntKind.signed,IntKind.bits]
 omega
abbrev U (i:Nat):DV:=.p (.int .u64 (i:Int))
theorem geqU (t:TypeId) (a b:Int):binOp PP .geq t (.p (.int .u64 a)) (.p (.int .u64 b))=some (.p (.bool (decide (a>=b)))):=Eq.trans rfl rfl
theorem shr16 (t:TypeId) (n:Nat):binOp PP .shr t (.p (.int .u64 (n:Int))) (.p (.int .u64 16))=some (.p (.int .u64 ((n / 65536:Nat):Int))):=by
 have e:binOp PP .shr t (.p (.int .u64 (n:Int))) (.p (.int .u64 16))=some (.p (.int .u64 ((n:Int).fdiv (2 ^ 16)))):=Eq.trans rfl rfl
 rw [e,Int.fdiv_eq_ediv_of_nonneg _ (by decide)]
 congr 3
theorem shr8 (t:TypeId) (n:Nat):binOp PP .shr t (.p (.int .u64 (n:Int))) (.p (.int .u64 8))=some (.p (.int .u64 ((n / 256:Nat):Int))):=by
 have e:binOp PP .shr t (.p (.int .u64 (n:Int))) (.p (.int .u64 8))=some (.p (.int .u64 ((n:Int).fdiv (2 ^ 8)))):=Eq.trans rfl rfl
 rw [e,Int.fdiv_eq_ediv_of_nonneg _ (by decide)]
 congr 3
theorem cv_ub {m:Nat} (h:m<256):convert PP 178 5 (.p (.int .u64 (m:Int)))=some (.p (.int .u8 (m:Int))):=by
 have e:convert PP 178 5 (.p (.int .u64 (m:Int)))=some (.p (.int .u8 (IntKind.wrap .u8 m))):=Eq.trans (by kernel_rfl) rfl
 rw [e,wrapB (by omega) (by omega)]
theorem cv_bi {m:Nat} (h:m<256):convert PP 5 3 (.p (.int .u8 (m:Int)))=some (.p (.int .i64 (m:Int))):=by
 have e:convert PP 5 3 (.p (.int .u8 (m:Int)))=some (.p (.int .i64 (IntKind.wrap .i64 m))):=Eq.trans (by kernel_rfl) rfl
 rw [e,QE (by omega) (by omega)]
theorem Ji {m:Nat} (h:m<=1000000):convert PP 3 165 (.p (.int .i64 (m:Int)))=some (.p (.int .u64 (m:Int))):=by
 have e:convert PP 3 165 (.p (.int .i64 (m:Int)))=some (.p (.int .u64 (IntKind.wrap .u64 m))):=Eq.trans (by kernel_rfl) rfl
 rw [e,UK (by omega) (by omega)]
theorem cv_ix {m:Nat} (h:m<=1000000):convert PP 3 185 (.p (.int .i64 (m:Int)))=some (.p (.int .u64 (m:Int))):=by
 have e:convert PP 3 185 (.p (.int .i64 (m:Int)))=some (.p (.int .u64 (IntKind.wrap .u64 m))):=Eq.trans (by kernel_rfl) rfl
 rw [e,UK (by omega) (by omega)]
theorem cv_ui {m:Nat} (h:m<=1000000):convert PP 165 3 (.p (.int .u64 (m:Int)))=some (.p (.int .i64 (m:Int))):=by
 have e:convert PP 165 3 (.p (.int .u64 (m:Int)))=some (.p (.int .i64 (IntKind.wrap .i64 m))):=Eq.trans (by kernel_rfl) rfl
 rw [e,QE (by omega) (by omega)]
theorem uTS:PP.underlying 9=some .string:=Eq.trans (by kernel_rfl) rfl
theorem idx_tab {m:Nat} {b:UInt8} (h:UJ[m]?=some b):index PP 9 (.p (.str UJ)) (.p (.int .u8 (m:Int)))=some (.p (.int .u8 b.toNat)):=by
 have h0:(0:Int)<=(m:Int):=by omega
 simp only [index,uTS,h0,if_true,Int.toNat_natCast,h]
theorem L64_J2 {m c:Nat} (hm:m<256) (hc:c<=100) (x3 x4 x5 x6 x7 x8 x9 x10 x11 x12 x13 x14 x15 x16 x17 x18:DV) (σ:Qa):∃ b:Nat,f135_J2 Qb 0 (U m) (N c) x3 x4 x5 x6 x7 x8 x9 x10 x11 x12 x13 x14 x15 x16 x17 x18 σ=some (N (c+b),σ)/\2 ^ b<=2*max m 1/\b<=8:=by
 obtain ⟨b,h1,h2,h3⟩:=tab_at hm
 refine ⟨b.toNat,?_,h2,h3⟩
 rw [f135_J2_eq Qb]
 simp (disch:=omega) only [U,N,cv_ub hm,idx_tab h1,gG]
 rw [cv_bi (by omega)]
 simp (disch:=omega) only [addN,gG]
theorem L64_run {n:Nat} (hn:n<=1000000):∃ b:Nat,F135 Qb 0 (U n) []=some (N b,[])/\2 ^ b<=2*max n 1/\b<=24:=by
 rw [F135_eq]
 have h0:¬ ((n:Int)>=4294967296):=by omega
 have a8:binOp PP .add 3 (.p (.int .i64 0)) (.p (.int .i64 8))=some (N 8):=by rw [Wa]; rfl
 have a16:binOp PP .add 3 (.p (.int .i64 0)) (.p (.int .i64 16))=some (N 16):=by rw [Wa]; rfl
 by_cases h1:n<256
 ·obtain ⟨b,e,h2,h3⟩:=L64_J2 (c:=0) h1 (by omega) _ _ _ _ _ _ _ _ _ _ _ _ _ _ _ _ []
  refine ⟨b,?_,h2,by omega⟩
  simp (disch:=omega) only [U,N,geqU,geF,gG,f135_J0_eq,f135_J1_eq]
  rw [Nat.zero_add] at e
  exact e
 ·by_cases h4:n<65536
  ·obtain ⟨b,e,h2,h3⟩:=L64_J2 (m:=n / 256) (c:=8) (by omega) (by omega) _ _ _ _ _ _ _ _ _ _ _ _ _ _ _ _ []
   refine ⟨8+b,?_,?_,by omega⟩
   ·simp (disch:=omega) only [U,N,geqU,geF,geT,gG,f135_J0_eq,f135_J1_eq,shr8,a8]
    exact e
   ·rw [Nat.pow_add]; omega
  ·obtain ⟨b,e,h2,h3⟩:=L64_J2 (m:=n / 65536) (c:=16) (by omega) (by omega) _ _ _ _ _ _ _ _ _ _ _ _ _ _ _ _ []
   refine ⟨16+b,?_,?_,by omega⟩
   ·simp (disch:=omega) only [U,N,geqU,geF,geT,gG,f135_J0_eq,f135_J1_eq,shr16,a16]
    exact e
   ·rw [Nat.pow_add]; omega
theorem Jj {n:Nat} (hn:n<=1000000):∃ b:Nat,(∀ σ,Qv CC 122 [U n] σ=some (N b))/\2 ^ b<=2*max n 1/\b<=24:=by
 obtain ⟨b,e,h2,h3⟩:=L64_run hn
 refine ⟨b,fun σ=>?_,h2,h3⟩
 have h1:∀ σ,Qv CC 135 [U n] σ=some (N b):=fun σ=>Qk rfl rfl (F135_call e) rfl
 refine Qk rfl rfl (F122_call (r:=(N b,[])) ?_) rfl
 rw [F122_eq]
 simp only [U,N] at h1
 simp only [U,N,gG,Qi,List.append_nil,h1]
theorem np_ok {n:Nat} (hn:n<=1000000):∃ m:Nat,(∀ σ,Qv CC 147 [N n] σ=some (U m))/\m<=2*max n 1/\1<=m:=by
 obtain ⟨b,e,h2,h3⟩:=Jj hn
 have hb:2 ^ b<=2 ^ 24:=Nat.pow_le_pow_right (by decide) h3
 refine ⟨2 ^ b,fun σ=>Qk rfl rfl (F147_call (r:=(U (2 ^ b),[])) ?_) rfl,h2,Nat.pos_of_ne_zero (by simp)⟩
 have e1:binOp PP .shl 165 (.p (.int .u64 1)) (.p (.int .i64 (b:Nat)))=some (.p (.int .u64 ((2 ^ b:Nat):Int))):=by
  have e2:binOp PP .shl 165 (.p (.int .u64 1)) (.p (.int .i64 (b:Nat)))=some (.p (.int .u64 (IntKind.wrap .u64 (1*2 ^ (min b 64))))):=by
   have h0:¬ ((b:Nat):Int)<0:=by omega
   have e5:IntKind.bits .u64=64:=rfl
   simp only [binOp,binShift,h0,if_false,Int.toNat_natCast,Option.map_some,e5]
  have e3:(1:Int)*2 ^ (min b 64)=((2 ^ b:Nat):Int):=by rw [Nat.min_eq_left (by omega)]; simp
  have e6:((2 ^ b:Nat):Int)<18446744073709551616:=by omega
  rw [e2,e3,UK (Int.natCast_nonneg _) e6]
 simp only [U] at e
 rw [F147_eq]
 simp (disch:=omega) only [U,N,Ji,gG,Qi,List.append_nil,e,e1]
def QU (σ:Qa) (r:Nat) (A:List E) (k:Int):Qa:=W (σ++[Row.mix [.p (.int .u64 k)]]) r A
section
variable {r n lo : Nat} {σ : Qa}
theorem QU_load (hr:r<σ.length) (A:List E) (k:Int):load PP 185 (.ptr σ.length 0) (QU σ r A k)=some (.p (.int .u64 k)):=by
 have e:∀ x σ,load PP 185 x σ=ZX x σ:=fun x σ=>Eq.trans (by kernel_rfl) rfl
 rw [e,Qc (off:=0) (cs:=[.p (.int .u64 k)]) ?_ rfl]
 exact Qu QB (by omega)
theorem sX:size? PP 185=some 1:=Eq.trans (by kernel_rfl) rfl
theorem QU_store (hr:r<σ.length) (hlo:lo<=r) (A:List E) (k k':Int):store PP lo 185 (.ptr σ.length 0) (.p (.int .u64 k')) (QU σ r A k)=some (QU σ r A k'):=by
 have h1:(QU σ r A k)[σ.length]?=some (.mix [.p (.int .u64 k)]):=Qu QB (by omega)
 have h2:lo<=σ.length:=by omega
 have h3:(QU σ r A k).set σ.length (.mix [.p (.int .u64 k')])=QU σ r A k':=by
  unfold QU
  rw [W,List.set_comm _ _ (by omega),List.set_append_right _ _ (Nat.le_refl _),Nat.sub_self]
  rfl
 simp only [store,sX,DV.cells,List.length_singleton,if_true,Zo,h2,h1]
 rw [<-h3]
 rfl
theorem shlX (t:TypeId) (a:Int):∃ v,binOp PP .shl t (.p (.int .u64 a)) (.p (.int .u64 13))=some (.p (.int .u64 v)):=⟨_,Eq.trans rfl rfl⟩
theorem shrX (t:TypeId) (a:Int):∃ v,binOp PP .shr t (.p (.int .u64 a)) (.p (.int .u64 7))=some (.p (.int .u64 v)):=⟨_,Eq.trans rfl rfl⟩
theorem shlY (t:TypeId) (a:Int):∃ v,binOp PP .shl t (.p (.int .u64 a)) (.p (.int .u64 17))=some (.p (.int .u64 v)):=⟨_,Eq.trans rfl rfl⟩
theorem xorX (t:TypeId) (a b:Int):∃ v,binOp PP .xor t (.p (.int .u64 a)) (.p (.int .u64 b))=some (.p (.int .u64 v)):=⟨_,Eq.trans rfl rfl⟩
theorem andX (t:TypeId) (a:Int) {b:Nat} (hb:b<18446744073709551616):∃ m:Nat,binOp PP .and t (.p (.int .u64 a)) (.p (.int .u64 (b:Int)))=some (.p (.int .u64 (m:Int)))/\m<=b:=by
 have e:binOp PP .and t (.p (.int .u64 a)) (.p (.int .u64 (b:Int)))=some (.p (.int .u64 (IntKind.wrap .u64 (BitVec.ofInt 64 a&&& BitVec.ofInt 64 (b:Int)).toNat))):=Eq.trans rfl rfl
 have h:(BitVec.ofInt 64 a&&& BitVec.ofInt 64 (b:Int)).toNat<=b:=by
  rw [BitVec.toNat_and]
  refine Nat.le_trans Nat.and_le_right ?_
  rw [BitVec.toNat_ofInt]
  omega
 exact ⟨_,by rw [e,UK (by omega) (by omega)],h⟩
theorem nx_ok (hr:r<σ.length) (hlo:lo<=r) (A:List E) (k:Int):∃ k',CC lo 148 [.ptr σ.length 0] (QU σ r A k)=some (.p (.int .u64 k'),QU σ r A k'):=by
 obtain ⟨v1,h1⟩:=shlX 185 k
 obtain ⟨v2,h2⟩:=xorX 185 k v1
 obtain ⟨v3,h3⟩:=shrX 185 v2
 obtain ⟨v4,h4⟩:=xorX 185 v2 v3
 obtain ⟨v5,h5⟩:=shlY 185 v4
 obtain ⟨v6,h6⟩:=xorX 185 v4 v5
 refine ⟨v6,F148_call ?_⟩
 have e3:∀ s off,QY (.ptr s off)=some (.ptr s off):=fun _ _=>rfl
 rw [F148_eq]
 simp only [e3,gG,QU_load hr,h1,h2,h3,h4,h5,h6,QU_store hr hlo]
theorem bp_J0 (hr:r<σ.length) (hlo:lo<=r) (hn:n<=100000) {a idx o:Nat} (h1:idx<n) (h2:a+o<n) {A:List E} (hA:A.length=n) (k:Int) (x8 x9 x10 x28 x29 x30 x31 x32 x33 x34 x35 x38 x39 x40 x41 x42 x43 x44 x45 x46 x47 x48:DV) :
  f156_J0 Qb lo (V r n) (N a) x8 x9 x10 (N idx) (N o) x28 x29 x30 x31 x32 x33 x34 x35 x38 x39 x40 x41 x42 x43 x44 x45 x46 x47 x48 (QU σ r A k)=f156_L0 Qb lo (V r n) (N a) x8 x9 x10 (N (idx+1)) (QU σ r (swp A idx (a+o)) k):=by
 have hr':r<(σ++[Row.mix [.p (.int .u64 k)]]).length:=by simp; omega
 have h3:(A.set idx (ge A (a+o))).length=n:=by rw [QW]; exact hA
 rw [f156_J0_eq Qb]
 simp (disch:=omega) only [V,N,QU,addN,idxL,ldW,stW,add1,gG,swp]
theorem Jy (hr:r<σ.length) (hlo:lo<=r) (hn:n<=100000) {a b m:Nat} (hab:a+12<b) (hb:b<=n) (hm:m<=2*(b-a)) (hm1:1<=m):∀ (d idx:Nat) (A:List E) (k:Int),a+(b-a) / 4*2+2-idx=d->a<=idx->A.length=n->
  ∃ B k',RP a b A B/\f156_L0 Qb lo (V r n) (N a) (N (b-a)) (.ptr σ.length 0) (U m) (N idx) (QU σ r A k)=some (.tuple [],QU σ r B k')
 | 0,idx,A,k,hd,hi,hA=>by
  refine ⟨A,k,RP.refl _ _ _,?_⟩
  rw [f156_L0_eq Qb rfl]
  simp (disch:=omega) only [V,N,quo4,mulB,addN,add1,QX,leF,gG]
 | d+1,idx,A,k,hd,hi,hA=>by
  obtain ⟨k1,e1⟩:=nx_ok hr hlo A k
  obtain ⟨o,e2,h2⟩:=andX 165 k1 (b:=m-1) (by omega)
  have e3:binOp PP .sub 165 (.p (.int .u64 (m:Int))) (.p (.int .u64 1))=some (.p (.int .u64 ((m-1:Nat):Int))):=by
   have e4:binOp PP .sub 165 (.p (.int .u64 (m:Int))) (.p (.int .u64 1))=some (.p (.int .u64 (IntKind.wrap .u64 ((m:Int)-1)))):=Eq.trans rfl rfl
   rw [e4,UK (by omega) (by omega)]
   congr 3
   omega
  by_cases h:b-a<=o
  ·obtain ⟨B,k',g1,g2⟩:=Jy hr hlo hn hab hb hm hm1 d (idx+1) (swp A idx (a+(o-(b-a)))) k1 (by omega) (by omega) (by rw [Qy]; exact hA)
   refine ⟨B,k',(RP.swap (a:=a) (b:=b) (i:=idx) (j:=a+(o-(b-a))) ⟨hi,by omega⟩ ⟨by omega,by omega⟩ (by omega)).trans g1,?_⟩
   rw [f156_L0_eq Qb rfl]
   simp (disch:=omega) only [V,N,quo4,mulB,addN,add1,QX,leT,gG,Qq,List.append_nil,e1,U,e3,e2,cv_ui,Zj,geT,subN]
   exact (bp_J0 hr hlo hn (by omega) (by omega) hA k1 _ _ _ _ _ _ _ _ _ _ _ _ _ _ _ _ _ _ _ _ _ _).trans g2
  ·obtain ⟨B,k',g1,g2⟩:=Jy hr hlo hn hab hb hm hm1 d (idx+1) (swp A idx (a+o)) k1 (by omega) (by omega) (by rw [Qy]; exact hA)
   refine ⟨B,k',(RP.swap (a:=a) (b:=b) (i:=idx) (j:=a+o) ⟨hi,by omega⟩ ⟨by omega,by omega⟩ (by omega)).trans g1,?_⟩
   rw [f156_L0_eq Qb rfl]
   simp (disch:=omega) only [V,N,quo4,mulB,addN,add1,QX,leT,gG,Qq,List.append_nil,e1,U,e3,e2,cv_ui,Zj,geF]
   exact (bp_J0 hr hlo hn (by omega) (by omega) hA k1 _ _ _ _ _ _ _ _ _ _ _ _ _ _ _ _ _ _ _ _ _ _).trans g2
theorem zX:Qx PP 185=some [.p (.int .u64 0)]:=Eq.trans (by kernel_rfl) rfl
theorem bp_ok (hr:r<σ.length) (hlo:lo<=r) (hn:n<=100000) {a b:Nat} (hab:a+12<b) (hb:b<=n) {A:List E} (hA:A.length=n) (y:DV) :
  ∃ B k',RP a b A B/\CC lo 156 [V r n,N a,N b,y] (W σ r A)=some (.tuple [],QU σ r B k'):=by
 obtain ⟨m,e1,h1,h2⟩:=np_ok (n:=b-a) (by omega)
 have hm:max (b-a) 1=b-a:=by omega
 rw [hm] at h1
 obtain ⟨B,k',g1,g2⟩:=Jy hr hlo hn hab hb h1 h2 _ (a+(b-a) / 4*2-1) A ((b-a:Nat):Int) rfl (by omega) hA
 refine ⟨B,k',g1,F156_call ?_⟩
 have hw:(W σ r A)++[Row.mix [.p (.int .u64 0)]]=QU σ r A 0:=W_snoc hr A _
 have hl:List.length (W σ r A)=σ.length:=W_len _ _ _
 simp only [N,U] at e1
 rw [F156_eq]
 simp (disch:=omega) only [V,N,subN,Zj,geT,gG,cv_ix,zX,hw,hl,QU_store,Qi,List.append_nil,e1,quo4,mulB,addN,sub1]
 exact g2
end
end Go.D.StT
end
/- pdqsort over elements of type 69: it sorts. -/
section
set_option linter.unusedVariables false
set_option linter.unusedSimpArgs false
namespace Go.D.StT
open Go.D.Srt
abbrev I (x:Int):DV:=.p (.int .i64 x)
abbrev Bo (b:Bool):DV:=.p (.bool b)
def Goal (cmp:E->E->Int) (r a b:Nat) (A:List E) (σ:Qa) (res:Option (DV×Qa)):Prop:=
 ∃ B σ',res=some (.tuple [],W σ' r B)/\RP a b A B/\Sd (ltc cmp) a b B/\∃ e,σ'=σ++e
def Low (cmp:E->E->Int) (a b:Nat) (A:List E):Prop:=0<a->∀ p,a<=p->p<b->ltc cmp (ge A p) (ge A (a-1))=false
theorem Goal.mono {cmp:E->E->Int} {r a b:Nat} {A A0:List E} {σ σ0:Qa} {res:Option (DV×Qa)} (h:Goal cmp r a b A0 σ0 res) (h1:RP a b A A0) (h2:∃ e,σ0=σ++e):Goal cmp r a b A σ res:=by
 obtain ⟨B,σ',e1,e2,e3,x,e4⟩:=h
 obtain ⟨y,rfl⟩:=h2
 exact ⟨B,σ',e1,h1.trans e2,e3,y++x,by rw [e4,List.append_assoc]⟩
theorem Low.perm {cmp:E->E->Int} {a b:Nat} {A B:List E} (h:Low cmp a b A) (h1:RP a b A B):Low cmp a b B:=by
 intro h0 p g1 g2
 rw [h1.out (a-1) (by omega)]
 exact h1.all (fun x=>ltc cmp x (ge A (a-1))=false) (h h0) p g1 g2
section
variable {cf : FuncId} {cmp : E -> E -> Int} (hc : ∀ (x y : E) (σ : Qa), Qv CC cf [val x, val y] σ = some (.p (.int .i64 (cmp x y)))) (H : Ord (ltc cmp))
variable {r n lo : Nat}
def IH (cf:FuncId) (cmp:E->E->Int) (r n lo m:Nat):Prop:=∀ (a b:Nat) (A:List E) (lim:Int) (wb wp:Bool) (σ:Qa),b-a<m->a<=b->b<=n->A.length=n->Low cmp a b A->r<σ.length->
 Goal cmp r a b A σ (f145_L0 Qb lo (V r n) (N a) (N b) (I lim) (.fn cf []) (Bo wb) (Bo wp) (W σ r A))
theorem subI (t:TypeId) (a b:Int):binOp PP .sub t (.p (.int .i64 a)) (.p (.int .i64 b))=some (.p (.int .i64 (IntKind.wrap .i64 (a-b)))):=Eq.trans rfl rfl
theorem quo8 {l:Nat} (h:l<=1000000):binOp PP .quo 3 (.p (.int .i64 (l:Nat))) (.p (.int .i64 8))=some (.p (.int .i64 ((l / 8:Nat):Int))):=by
 have e3:((l:Nat):Int).tdiv 8=((l / 8:Nat):Int):=by rw [Int.tdiv_eq_ediv_of_nonneg (by omega)]; omega
 have e4:binOp PP .quo 3 (.p (.int .i64 ((l:Nat):Int))) (.p (.int .i64 8))=some (.p (.int .i64 (IntKind.wrap .i64 (((l:Nat):Int).tdiv 8)))):=Eq.trans rfl rfl
 rw [e4,e3,QE (by omega) (by omega)]
include hc H in
theorem pq_part (hlo:lo<=r) (hn:n<=100000) {a b p:Nat} (ih:IH cf cmp r n lo (b-a)) (hab:a+12<b) (hb:b<=n) (hp1:a<=p) (hp2:p<b) {A:List E} (hA:A.length=n) (hL:Low cmp a b A) (lim:Int) (y:DV) {σ:Qa} (hr:r<σ.length) :
  Goal cmp r a b A σ ((Qd CC lo (DV.fn 161 []) [V r n,N a,N b,N p,.fn cf []] (W σ r A)).bind fun r111_24=>
   (Qj r111_24.1 0).bind fun x112=>
   (Qj r111_24.1 1).bind fun x113=>
   (binOp PP .sub 3 x112 (N a)).bind fun x117=>
   (binOp PP .sub 3 (N b) x112).bind fun x120=>
   (binOp PP .quo 3 (N (b-a)) (DV.p (PV.int IntKind.i64 (8)))).bind fun x122=>
   (binOp PP .lss 3 x117 x120).bind fun x125=>
   Qh x125
   (
   (binOp PP .geq 3 x117 x122).bind fun x128=>
   (Qd CC lo (DV.fn 145 []) [V r n,N a,x112,I lim,.fn cf []] r111_24.2).bind fun r134_25=>
   (binOp PP .add 3 x112 (DV.p (PV.int IntKind.i64 (1)))).bind fun x136=>
   f145_L0 Qb lo (V r n) x136 (N b) (I lim) (.fn cf []) x128 x113 r134_25.2
   )
   (
   (binOp PP .geq 3 x120 x122).bind fun x139=>
   (binOp PP .add 3 x112 (DV.p (PV.int IntKind.i64 (1)))).bind fun x142=>
   (Qd CC lo (DV.fn 145 []) [V r n,x142,N b,I lim,.fn cf []] r111_24.2).bind fun r146_26=>
   f145_L0 Qb lo (V r n) (N a) x112 (I lim) (.fn cf []) x139 x113 r146_26.2
   )):=by
 obtain ⟨f,e1⟩:=pa_ok hc hr hlo hn (show a<b by omega) hb (show p<n by omega) A hA
 have r1:RP a b A (swp A a p):=RP.swap ⟨by omega,by omega⟩ ⟨hp1,hp2⟩ (by omega)
 have hm:=prt_mid H (a:=a) (b:=b) (A:=swp A a p) (by omega) (by rw [Qy]; omega)
 have hm:a<=(prt (uA cmp) (vA cmp) a (b-a+1) (a+1) (b-1) (swp A a p)).2.1/\(prt (uA cmp) (vA cmp) a (b-a+1) (a+1) (b-1) (swp A a p)).2.1<b/\RP a b (swp A a p) (swp (prt (uA cmp) (vA cmp) a (b-a+1) (a+1) (b-1) (swp A a p)).2.2 (prt (uA cmp) (vA cmp) a (b-a+1) (a+1) (b-1) (swp A a p)).2.1 a)/\Mid (ltc cmp) a b (prt (uA cmp) (vA cmp) a (b-a+1) (a+1) (b-1) (swp A a p)).2.1 (swp (prt (uA cmp) (vA cmp) a (b-a+1) (a+1) (b-1) (swp A a p)).2.2 (prt (uA cmp) (vA cmp) a (b-a+1) (a+1) (b-1) (swp A a p)).2.1 a):=hm
 generalize (swp (prt (uA cmp) (vA cmp) a (b-a+1) (a+1) (b-1) (swp A a p)).2.2 (prt (uA cmp) (vA cmp) a (b-a+1) (a+1) (b-1) (swp A a p)).2.1 a)=A1 at *
 generalize (prt (uA cmp) (vA cmp) a (b-a+1) (a+1) (b-1) (swp A a p)).2.1=m at *
 obtain ⟨m1,m2,m3,m4⟩:=hm
 have rA:RP a b A A1:=r1.trans m3
 have hL1:=hL.perm rA
 have hA1:A1.length=n:=rA.len.trans hA
 simp only [Qq,List.append_nil,e1,gG,Jw,Jv]
 by_cases hlt:m-a<b-m
 ·
  have hLl:Low cmp a m A1:=fun h0 p g1 g2=>hL1 h0 p g1 (by omega)
  obtain ⟨B,σ1,g1,g2,g3,x,rfl⟩:=ih a m A1 lim true true σ (by omega) m1 (by omega) hA1 hLl hr
  have c1:CC lo 145 [V r n,N a,N m,I lim,.fn cf []] (W σ r A1)=some (.tuple [],W (σ++x) r B):=F145_call (by rw [F145_eq]; exact g1)
  have hLr:Low cmp (m+1) b B:=fun h0 p k1 k2=>by
   rw [g2.out p (by omega),g2.out (m+1-1) (by omega)]
   exact m4.2 p (by omega) k2
  obtain ⟨C,σ2,q1,q2,q3,z,rfl⟩:=ih (m+1) b B lim (decide (((m-a:Nat):Int)>=(((b-a) / 8:Nat):Int))) f (σ++x) (by omega) (by omega) hb (g2.len.trans hA1) hLr (by rw [List.length_append]; omega)
  have gl:=glue H (a:=a) (b:=b) (m:=m) ⟨m1,m2⟩ m4 g2 g3 q2 q3
  refine ⟨C,_,?_,rA.trans gl.1,gl.2,x++z,List.append_assoc _ _ _⟩
  simp only [V,N,I] at c1
  simp (disch:=omega) only [V,N,I,subN,quo8,Qn,ltT,gG,Zj]
  rw [c1]
  simp (disch:=omega) only [gG,add1]
  exact q1
 ·have hLr:Low cmp (m+1) b A1:=fun h0 p k1 k2=>m4.2 p (by omega) k2
  obtain ⟨B,σ1,g1,g2,g3,x,rfl⟩:=ih (m+1) b A1 lim true true σ (by omega) (by omega) hb hA1 hLr hr
  have c1:CC lo 145 [V r n,N (m+1),N b,I lim,.fn cf []] (W σ r A1)=some (.tuple [],W (σ++x) r B):=F145_call (by rw [F145_eq]; exact g1)
  have hLl:Low cmp a m B:=fun h0 p k1 k2=>by
   rw [g2.out p (by omega),g2.out (a-1) (by omega)]
   exact hL1 h0 p k1 (by omega)
  obtain ⟨C,σ2,q1,q2,q3,z,rfl⟩:=ih a m B lim (decide (((b-m:Nat):Int)>=(((b-a) / 8:Nat):Int))) f (σ++x) (by omega) m1 (by omega) (g2.len.trans hA1) hLl (by rw [List.length_append]; omega)
  have gl:=glue' H (a:=a) (b:=b) (m:=m) ⟨m1,m2⟩ m4 g2 g3 q2 q3
  refine ⟨C,_,?_,rA.trans gl.1,gl.2,x++z,List.append_assoc _ _ _⟩
  simp only [V,N,I] at c1
  simp (disch:=omega) only [V,N,I,subN,quo8,Qn,ltF,gG,Zj,add1]
  rw [c1]
  simp (disch:=omega) only [gG]
  exact q1
include hc H in
theorem Ja (hlo:lo<=r) (hn:n<=100000) {a b p:Nat} (ih:IH cf cmp r n lo (b-a)) (hab:a+12<b) (hb:b<=n) (hp1:a<=p) (hp2:p<b) {A:List E} (hA:A.length=n) (hL:Low cmp a b A) (lim:Int) (wb wp:Bool) {σ:Qa} (hr:r<σ.length) (x14 x21 x22 x23 x24 x25 x31 x32 x38 x39 x40 x41 x42 x43 x44 x45 x46 x47 x48 x49 x50 x51 x52 x53 x54 x55 x56 x57 x58 x59 x60 x61 x62 x63 x64 x65 x66 x67 x68 x69 x70 x71 x72 x73 x74 x75 x76 x77 x78 x79 x80:DV) :
  Goal cmp r a b A σ (f145_J2 Qb lo (V r n) (N a) (N b) (I lim) (.fn cf []) (Bo wb) (Bo wp) (N (b-a)) (N p) x14 x21 x22 x23 x24 x25 x31 x32 x38 x39 x40 x41 x42 x43 x44 x45 x46 x47 x48 x49 x50 x51 x52 x53 x54 x55 x56 x57 x58 x59 x60 x61 x62 x63 x64 x65 x66 x67 x68 x69 x70 x71 x72 x73 x74 x75 x76 x77 x78 x79 x80 (W σ r A)):=by
 have key:=pq_part hc H hlo hn ih hab hb hp1 hp2 hA hL lim x14 hr
 rw [f145_J2_eq Qb]
 by_cases h0:0<a
 ·by_cases h1:cmp (ge A (a-1)) (ge A p)<0
  ·simp (disch:=omega) only [V,N,I,Bo,Zh,gtT,gG,sub1,idxL,ldW,Qi,List.append_nil,hc,Qn,ltT]
   exact key
  ·have e1:=pe_ok hc hr hlo hn (show a<b by omega) hb (show p<n by omega) A hA
   have r1:RP a b A (swp A a p):=RP.swap ⟨by omega,by omega⟩ ⟨hp1,hp2⟩ (by omega)
   have hL1:=hL.perm r1
   have g:=fun k=>Uf (A:=A) (i:=a) (j:=p) (by omega) (by omega) k
   have hpv:ltc cmp (ge (swp A a p) (a-1)) (ge (swp A a p) a)=false:=by
    have e2:ge (swp A a p) a=ge A p:=by
     rw [g]
     by_cases e:a=p
     ·rw [if_pos e,e]
     ·rw [if_neg e,if_pos rfl]
    rw [e2,r1.out (a-1) (by omega)]
    exact decide_eq_false h1
   have hm:=prtE_ok H (a:=a) (b:=b) (A:=swp A a p) (by omega) (by rw [Qy]; omega) (hL1 h0) h0 hpv
   have hm:a<(prt (uE cmp) (vE cmp) a (b-a+1) (a+1) (b-1) (swp A a p)).1/\(prt (uE cmp) (vE cmp) a (b-a+1) (a+1) (b-1) (swp A a p)).1<=b/\RP a b (swp A a p) (prt (uE cmp) (vE cmp) a (b-a+1) (a+1) (b-1) (swp A a p)).2.2/\(∀ q,(prt (uE cmp) (vE cmp) a (b-a+1) (a+1) (b-1) (swp A a p)).1<=q->q<b->ltc cmp (ge (prt (uE cmp) (vE cmp) a (b-a+1) (a+1) (b-1) (swp A a p)).2.2 q) (ge (prt (uE cmp) (vE cmp) a (b-a+1) (a+1) (b-1) (swp A a p)).2.2 ((prt (uE cmp) (vE cmp) a (b-a+1) (a+1) (b-1) (swp A a p)).1-1))=false)/\∀ C,RP (prt (uE cmp) (vE cmp) a (b-a+1) (a+1) (b-1) (swp A a p)).1 b (prt (uE cmp) (vE cmp) a (b-a+1) (a+1) (b-1) (swp A a p)).2.2 C->Sd (ltc cmp) (prt (uE cmp) (vE cmp) a (b-a+1) (a+1) (b-1) (swp A a p)).1 b C->Sd (ltc cmp) a b C:=hm
   simp only [enE] at e1
   generalize (prt (uE cmp) (vE cmp) a (b-a+1) (a+1) (b-1) (swp A a p)).2.2=A1 at *
   generalize (prt (uE cmp) (vE cmp) a (b-a+1) (a+1) (b-1) (swp A a p)).1=m at *
   obtain ⟨m1,m2,m3,m4,m5⟩:=hm
   obtain ⟨C,σ1,q1,q2,q3,z,rfl⟩:=ih m b A1 lim wb wp σ (by omega) m2 hb ((r1.trans m3).len.trans hA) (fun _ q g1 g2=>m4 q g1 g2) hr
   refine ⟨C,_,?_,(r1.trans m3).trans (q2.mono (by omega) (Nat.le_refl _)),m5 C q2 q3,z,rfl⟩
   simp only [V,N,I,Bo] at e1
   simp (disch:=omega) only [V,N,I,Bo,Zh,gtT,gG,sub1,idxL,ldW,Qi,List.append_nil,hc,Qn,ltF,Qq]
   rw [e1]
   simp only [gG]
   exact q1
 ·simp (disch:=omega) only [V,N,I,Bo,Zh,gtF,gG]
  exact key
include hc H in
theorem pq_J1 (hlo:lo<=r) (hn:n<=100000) {a b p:Nat} (ih:IH cf cmp r n lo (b-a)) (hab:a+12<b) (hb:b<=n) (hp1:a<=p) (hp2:p<b) {A:List E} (hA:A.length=n) (hL:Low cmp a b A) (lim h:Int) (wb wp:Bool) {σ:Qa} (hr:r<σ.length) (x21 x22 x23 x24 x25 x31 x32 x38 x39 x40 x41 x42 x43 x44 x45 x46 x47 x48 x49 x50 x51 x52 x53 x54 x55 x56 x57 x58 x59 x60 x61 x62 x63 x64 x65 x66 x67:DV) :
  Goal cmp r a b A σ (f145_J1 Qb lo (V r n) (N a) (N b) (I lim) (.fn cf []) (Bo wb) (Bo wp) (N (b-a)) (N p) (I h) x21 x22 x23 x24 x25 x31 x32 x38 x39 x40 x41 x42 x43 x44 x45 x46 x47 x48 x49 x50 x51 x52 x53 x54 x55 x56 x57 x58 x59 x60 x61 x62 x63 x64 x65 x66 x67 (W σ r A)):=by
 have e1:=pi_ok hc hr hlo hn hb (show a<b by omega) A hA
 have h1:=pins_ok H (a:=a) (b:=b) 5 (a+1) A (Nat.le_refl _) (by omega) (by omega) hL (fun p q g1 g2 g3=>by omega)
 rw [f145_J1_eq Qb]
 cases wb with
 | false=>simp only [Bo,gG]; exact Ja hc H hlo hn ih hab hb hp1 hp2 hA hL lim false wp hr (I h) _ _ _ _ _ _ _ _ _ _ _ _ _ _ _ _ _ _ _ _ _ _ _ _ _ _ _ _ _ _ _ _ _ _ _ _ _ _ _ _ _ _ _ _ _ _ _ _ _ _
 | true=>
  cases wp with
  | false=>simp only [Bo,gG]; exact Ja hc H hlo hn ih hab hb hp1 hp2 hA hL lim true false hr (I h) _ _ _ _ _ _ _ _ _ _ _ _ _ _ _ _ _ _ _ _ _ _ _ _ _ _ _ _ _ _ _ _ _ _ _ _ _ _ _ _ _ _ _ _ _ _ _ _ _ _
  | true=>
   by_cases hh:h=1
   ·simp only [Bo,gG,I,QV,eqT hh,Qq,List.append_nil]
    rw [e1]
    simp only [gG]
    cases hs:(pins (ltc cmp) a b 5 (a+1) A).1 with
    | true=>
     simp only [gG]
     exact ⟨_,σ,rfl,h1.1,h1.2 hs,[],(List.append_nil _).symm⟩
    | false=>
     simp only [gG]
     exact Goal.mono (Ja hc H hlo hn ih hab hb hp1 hp2 (h1.1.len.trans hA) (hL.perm h1.1) lim true true hr (I h) _ _ _ _ _ _ _ _ _ _ _ _ _ _ _ _ _ _ _ _ _ _ _ _ _ _ _ _ _ _ _ _ _ _ _ _ _ _ _ _ _ _ _ _ _ _ _ _ _ _) h1.1 ⟨[],(List.append_nil _).symm⟩
   ·simp only [Bo,gG,I,QV,eqF hh]
    exact Ja hc H hlo hn ih hab hb hp1 hp2 hA hL lim true true hr (I h) _ _ _ _ _ _ _ _ _ _ _ _ _ _ _ _ _ _ _ _ _ _ _ _ _ _ _ _ _ _ _ _ _ _ _ _ _ _ _ _ _ _ _ _ _ _ _ _ _ _
include hc H in
theorem pq_J0 (hlo:lo<=r) (hn:n<=100000) {a b:Nat} (ih:IH cf cmp r n lo (b-a)) (hab:a+12<b) (hb:b<=n) {A:List E} (hA:A.length=n) (hL:Low cmp a b A) (lim:Int) (wb wp:Bool) {σ:Qa} (hr:r<σ.length) (x21 x22 x23 x24 x25 x31 x32 x38 x39 x40 x41 x42 x43 x44 x45 x46:DV) :
  Goal cmp r a b A σ (f145_J0 Qb lo (V r n) (N a) (N b) (I lim) (.fn cf []) (Bo wb) (Bo wp) (N (b-a)) x21 x22 x23 x24 x25 x31 x32 x38 x39 x40 x41 x42 x43 x44 x45 x46 (W σ r A)):=by
 obtain ⟨p,h,k,e1,p1,p2⟩:=cp_ok hc hr hlo hn hab hb hA
 have hr1:r<(σ++[Row.mix [.p (.int .i64 k)]]).length:=by rw [List.length_append]; omega
 rw [f145_J0_eq Qb]
 simp only [Qq,List.append_nil]
 rw [e1]
 simp only [gG,Jw,Jv,QV]
 by_cases hh:h=2
 ·obtain ⟨B,g1,g2⟩:=rv_ok hr1 hlo hn (show a<b by omega) hb A hA (.fn cf [])
  simp only [V,N] at g2
  simp only [Q,eqT hh,gG,V,N]
  rw [g2]
  simp (disch:=omega) only [gG,sub1,subN]
  exact Goal.mono (pq_J1 hc H hlo hn ih hab hb (show a<=b-1-(p-a) by omega) (by omega) (g1.len.trans hA) (hL.perm g1) lim 1 wb wp hr1 _ _ _ _ _ _ _ _ _ _ _ _ _ _ _ _ _ _ _ _ _ _ _ _ _ _ _ _ _ _ _ _ _ _ _ _ _) g1 ⟨_,rfl⟩
 ·simp only [Q,eqF hh,gG]
  exact Goal.mono (pq_J1 hc H hlo hn ih hab hb p1 p2 hA hL lim h wb wp hr1 _ _ _ _ _ _ _ _ _ _ _ _ _ _ _ _ _ _ _ _ _ _ _ _ _ _ _ _ _ _ _ _ _ _ _ _ _) (RP.refl _ _ _) ⟨_,rfl⟩
include hc H in
theorem pq_all (hlo:lo<=r) (hn:n<=100000):∀ m,IH cf cmp r n lo m
 | 0=>fun a b A lim wb wp σ hm=>by omega
 | m+1=>by
  intro a b A lim wb wp σ hm hab hb hA hL hr
  have ih:IH cf cmp r n lo (b-a):=fun a' b' A' lim' wb' wp' σ' h=>pq_all hlo hn m a' b' A' lim' wb' wp' σ' (by omega)
  rw [f145_L0_eq Qb rfl]
  by_cases h12:b-a<=12
  ·have e1:=ins_ok hc hr hlo hn hb (show a<=n by omega) A hA
   simp only [V,N] at e1
   simp (disch:=omega) only [V,N,I,subN,QX,leT,gG,Qq,List.append_nil]
   rw [e1]
   simp only [gG]
   by_cases he:a=b
   ·subst he
    refine ⟨_,σ,rfl,?_,fun i j h1 h2 h3=>by omega,[],(List.append_nil _).symm⟩
    rw [show a-(a+1)=0 by omega]
    exact RP.refl _ _ _
   ·have h1:=insOut_ok H (a:=a) (b:=b) (b-(a+1)) (a+1) A (by omega) (by omega) (by omega) (fun p q g1 g2 g3=>by omega)
    exact ⟨_,σ,rfl,h1.1,h1.2,[],(List.append_nil _).symm⟩
  ·by_cases h0:lim=0
   ·have e1:=hs_ok hc hr hlo hn (show a<b by omega) hb A hA
    simp only [V,N] at e1
    simp (disch:=omega) only [V,N,I,subN,QX,leF,QV,eqT,gG,Qq,List.append_nil]
    rw [e1]
    simp only [gG]
    have h1:=hpA_ok H (f:=a) (n:=b-a) ((b-a-1) / 2) A (by omega) (by omega) (fun i c g1 g2 g3=>by omega)
    have h2:=hpB_ok H (f:=a) (n:=b-a) (b-a) _ (Nat.le_refl _) (by rw [h1.1.len]; omega) h1.2 (fun p q g1 g2 g3=>by omega) (fun p q g1 g2 g3 g4=>by omega)
    rw [show a+(b-a)=b by omega] at h1 h2
    exact ⟨_,σ,rfl,h1.1.trans h2.1,h2.2,[],(List.append_nil _).symm⟩
   ·cases wb with
    | true=>
     simp (disch:=omega) only [V,N,I,Bo,subN,QX,leF,QV,eqF h0,gG]
     exact pq_J0 hc H hlo hn ih (by omega) hb hA hL lim true wp hr _ _ _ _ _ _ _ _ _ _ _ _ _ _ _ _
    | false=>
     obtain ⟨B,k,g1,g2⟩:=bp_ok hr hlo hn (show a+12<b by omega) hb hA (.fn cf [])
     have hr1:r<(σ++[Row.mix [.p (.int .u64 k)]]).length:=by rw [List.length_append]; omega
     simp only [V,N,QU] at g2
     simp (disch:=omega) only [V,N,I,Bo,subN,QX,leF,QV,eqF h0,gG,Qq,List.append_nil]
     rw [g2]
     simp only [gG,subI]
     exact Goal.mono (pq_J0 hc H hlo hn ih (by omega) hb (g1.len.trans hA) (hL.perm g1) _ false wp hr1 _ _ _ _ _ _ _ _ _ _ _ _ _ _ _ _) g1 ⟨_,rfl⟩
include hc H in
theorem sort_ok (hlo:lo<=r) {A:List E} (hn:A.length<=100000) {σ:Qa} (h:σ[r]?=some (.mix (cels A))) :
  ∃ B e,CC lo 124 [.rsl r 3 0 A.length,.fn cf []] σ=some (.tuple [],W (σ++e) r B)/\B.Perm A/\Sd (ltc cmp) 0 A.length B:=by
 have hr:=QT h
 obtain ⟨b,e1,h2,h3⟩:=Jj (n:=A.length) (by omega)
 obtain ⟨B,σ1,g1,g2,g3,e,rfl⟩:=pq_all hc H hlo hn (A.length+1) 0 A.length A b true true σ (by omega) (Nat.zero_le _) (Nat.le_refl _) rfl (fun h0=>by omega) hr
 rw [W_eq h] at g1
 refine ⟨B,e,F124_call ?_,g2.perm,g3⟩
 have c1:CC lo 145 [V r A.length,N 0,N A.length,I b,.fn cf []] σ=some (.tuple [],W (σ++e) r B):=F145_call (by rw [F145_eq]; exact g1)
 have hl:len PP 23 (.rsl r 3 0 A.length) σ=some (N A.length):=by simp [len,uL]
 simp only [V,N,I,U] at c1 e1
 rw [F124_eq]
 simp (disch:=omega) only [V,N,I,hl,gG,Ji,Qi,Qq,List.append_nil,e1]
 have c2:CC lo 145 [.rsl r 3 0 A.length,.p (.int .i64 0),.p (.int .i64 (A.length:Nat)),.p (.int .i64 (b:Nat)),.fn cf []] σ=some (.tuple [],W (σ++e) r B):=c1
 rw [c2]
 simp only [gG]
end
end Go.D.StT
end
