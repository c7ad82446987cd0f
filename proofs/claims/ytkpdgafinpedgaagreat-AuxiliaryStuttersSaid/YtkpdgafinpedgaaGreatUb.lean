/- One operation. -/
import Derived.Test.YtkpdgafinpedgaaGreatUa
import Derived.OrdersIn
import Derived.TacticsIn
import Derived.RangeFuncLeaves
import Derived.RangeFuncRecord
import Derived.RangeFuncSeq
import Derived.LoopNIn
import Derived.KernelRfl
section
set_option linter.unusedVariables false
set_option linter.unusedSimpArgs false
namespace Go.D
variable {P : Program} {t : TypeId} {σ σ' : Qa} {L : Locs} {M : Mem} {w : World}
def Vals (L:Locs) (M:Mem) (ds:List DV) (vs:Array Value):Prop:=vs.size=ds.length/\∀ j (h1:j<ds.length) (h2:j<vs.size),VRel L M ds[j] vs[j]
structure Free (F:Fence):Prop where
 fn:∀ f,F.fn f
 depth:F.depth=none
theorem Free.room {F:Fence} (h:Free F) (n:Nat):F.room n:=fun d hd=>by rw [h.depth] at hd; exact absurd hd (by simp)
theorem Free.wide:Free Fence.wide:=⟨fun _=>trivial,rfl⟩
theorem Free.inRound {F:Fence} (h:Free F) (l:Nat):Free (F.inRound l):=⟨h.fn,h.depth⟩
def UV (P:Program) (call:Za):Prop:=∀ lo f args σ v σ',call lo f args σ=some (v,σ')->lo<=σ.length->∀ L M w (vs:Array Value),SRel σ L M w->Vals L M args vs->
 (∃ fn, P.funcs[f]? = some fn ∧ (fn.name == "runtime.NumGoroutine") = false ∧ fn.body.isNone = false) ∧
 ∀ F n,Free F->CallsIn F n P f vs w fun e w'=>∃ v',e=.returned v'/\∃ L' M',Post lo σ L M w σ' L' M' w'/\VRel L' M' v v'
theorem WI:∀ (cs:List PV),(QP cs).length=cs.length/\∀ j (h:j<cs.length) (h':j<(QP cs).length),(QP cs)[j]=Zs cs[j]
 | []=>⟨rfl,fun j h=>absurd h (by simp)⟩
 | c::cs=>by
  obtain ⟨h1,h2⟩:=WI cs
  refine ⟨by simp [QP,h1],fun j h h'=>?_⟩
  cases j with
  | zero=>simp [QP]
  | succ j=>simpa [QP] using h2 j (by simpa using h) (by simpa [QP] using h')
theorem loosen_rel {x:PV} {v:Value} (h:PRel M x v):PRel M (Zs x) v:=by
 induction h with
 | @sl ex n cs a cap vs hs hc he hm hv ih=>
  obtain ⟨h1,h2⟩:=WI cs
  unfold Zs
  exact .sl vs hs hc (by simp) (fun j hj=>hm j (by omega)) (fun j hj=>by rw [h2 j (by omega) hj]; exact ih j (by omega))
 | _=>constructor
theorem loosens_rel {cs:List PV} {vs:Nat->Value} (h:∀ j (hj:j<cs.length),PRel M cs[j] (vs j)):∀ j (hj:j<(QP cs).length),PRel M (QP cs)[j] (vs j):=by
 intro j hj
 obtain ⟨h1,h2⟩:=WI cs
 rw [h2 j (by omega) hj]
 exact loosen_rel (h j (by omega))
theorem mapO_ok {α β:Type} {f:α->Option β}:∀ {xs:List α} {rs:List β},mapO f xs=some rs->rs.length=xs.length/\∀ j (h1:j<xs.length) (h2:j<rs.length),f xs[j]=some rs[j]
 | [],rs,h=>by simp only [mapO,Option.some.injEq] at h; subst h; exact ⟨rfl,fun j h=>absurd h (by simp)⟩
 | x::xs,rs,h=>by
  simp only [mapO] at h
  split at h
  ·rename_i y ys h1 h2
   injection h with h; subst h
   obtain ⟨h3,h4⟩:=mapO_ok h2
   refine ⟨by simp [h3],fun j a b=>?_⟩
   cases j with
   | zero=>exact h1
   | succ j=>exact h4 j (by simpa using a) (by simpa using b)
  ·exact absurd h (by simp)
theorem viewCell_rel {x:DV} {v:Value} (h:VRel L M x v):VRel L M (Zw x) v:=by
 unfold Zw
 split
 ·rename_i cells
  cases h with | osl f hl0 hsp hcap hb0 ho hn0 hspr hlen' hm hv=>exact .p (.sl f (fun _=>hsp) hcap (by simp) (fun j hj=>hm j (by rw [(WI cells).1] at hj; exact hj)) (loosens_rel hv))
 ·cases h with | p h=>exact .p (loosen_rel h)
 ·exact h
theorem view_rel {x:DV} {v:Value} (h:VRel L M x v):VRel L M (view x) v:=by
 unfold view
 split
 ·obtain ⟨vs,rfl,h1,h2⟩:=Ve h
  exact .agg (by simpa using h1) (fun j a b=>by simpa using viewCell_rel (h2 j (by simpa using a) b))
 ·exact viewCell_rel h
theorem rowFree1_rel {L0:Locs} {x:DV} {v:Value} (hf:ZT x=true) (h:VRel L M x v):VRel L0 M x v:=by
 unfold ZT at hf
 split at hf
 ·cases h with | p h=>exact .p h
 ·cases h with | pptr vs hm hv=>exact .pptr vs hm hv
 ·exact .undef _
 ·exact absurd hf (by simp)
theorem rowFree_rel {L0:Locs} {x:DV} {v:Value} (hf:Zt x=true) (h:VRel L M x v):VRel L0 M x v:=by
 unfold Zt at hf
 split at hf
 ·cases h with | agg hn h=>exact .agg hn fun j h1 h2=>rowFree1_rel (List.all_eq_true.1 hf _ (List.getElem_mem h1)) (h j h1 h2)
 ·cases h with | fn hn h=>exact .fn hn fun j h1 h2=>rowFree1_rel (List.all_eq_true.1 hf _ (List.getElem_mem h1)) (h j h1 h2)
 ·exact rowFree1_rel hf h
noncomputable def QR (n:Nat) (σ:Qa) (L:Locs) (M:Mem) (w:World):Mem:=by
 classical
 exact fun b o=>if ∃ r row l,n<=r/\At σ L r row l/\row.owns=true/\l.b=b/\l.o<=o/\o<l.o+l.n then w.cell? ⟨b,o,none⟩ else M b o
theorem frozenMem_in {n:Nat} {r:Nat} {row:Row} {l:Loc} {o:Nat} (hn:n<=r) (ha:At σ L r row l) (hw:row.owns=true) (h1:l.o<=o) (h2:o<l.o+l.n):QR n σ L M w l.b o=w.cell? ⟨l.b,o,none⟩:=by
 unfold QR
 exact if_pos ⟨r,row,l,hn,ha,hw,rfl,h1,h2⟩
theorem ZY {n:Nat} (hs:SRel σ L M w):M.le (QR n σ L M w):=by
 intro b o v hv
 unfold QR
 refine (if_neg ?_).trans hv
 rintro ⟨r,row,l,_,ha,hw,rfl,h1,h2⟩
 rw [hs.away r _ l ha hw l.b o ⟨rfl,h1,by omega⟩] at hv
 exact absurd hv (by simp)
theorem frozenMem_cell {n:Nat} (hs:SRel σ L M w) {b o:Nat} {v:Value} (h:QR n σ L M w b o=some v):w.cell? ⟨b,o,none⟩=some v:=by
 unfold QR at h
 split at h
 ·exact h
 ·exact hs.mem b o v h
theorem frozenMem_cases {n:Nat} {b o:Nat} {v:Value} (h:QR n σ L M w b o=some v):M b o=some v\/Wr n σ L b o:=by
 unfold QR at h
 split at h
 ·rename_i hx
  obtain ⟨r,row,l,h1,h2,h3,h4,h5,h6⟩:=hx
  exact .inr ⟨r,row,l,h1,h2,h3,h4,h5,by omega⟩
 ·exact .inl h
theorem Jb {b o:Nat}:¬ Wr σ.length σ L b o:=by
 rintro ⟨r,row,l,h1,h2,_⟩
 have:=(List.getElem?_eq_some_iff.1 h2.1).1
 omega
theorem no_wm {b:Nat}:¬ Wm σ.length σ L b:=by
 rintro ⟨r,es,l,h1,h2,_⟩
 have:=(List.getElem?_eq_some_iff.1 h2.1).1
 omega
theorem post_pure (lo:Nat) {σ0 σ1:Qa} {L0 L1:Locs} {M1:Mem} {w1:World} (hs:SRel σ L M w) (hp:Post σ0.length σ0 L0 M w σ1 L1 M1 w1):Post lo σ L M w σ L (QR σ0.length σ1 L1 M1 w1) w1:=by
 have hMle:M.le (QR σ0.length σ1 L1 M1 w1):=Mem.le_trans hp.mle (ZY hp.srel)
 have hfrm:Frm (fun _ _=>False) (fun _=>False) w w1:=hp.frm.mono (fun b o h=>Jb h) (fun b h=>no_wm h)
 have hnew:∀ b o v,QR σ0.length σ1 L1 M1 w1 b o=some v->M b o=some v\/w.heap.size<=b:=by
  intro b o v hv
  rcases frozenMem_cases hv with h1 | h1
  ·rcases hp.mnew b o v h1 with h4 | h4 | h4
   ·exact .inl h4
   ·exact .inr h4
   ·exact (Jb h4).elim
  ·rcases hp.wr b o h1 with h4 | h4
   ·exact (Jb h4).elim
   ·exact .inr h4
 have hsr:SRel σ L (QR σ0.length σ1 L1 M1 w1) w1:=by
  refine hs.grow hfrm hMle fun b o v hv=>?_
  rcases hnew b o v hv with h1 | h1
  ·exact .inl h1
  ·refine .inr ⟨frozenMem_cell hp.srel hv,fun r row l ha ho hl=>?_⟩
   have:=hs.own_lt ha ho hl
   omega
 exact ⟨hsr,Locs.le_refl _,hMle,Nat.le_refl _,fun _ _ _=>rfl,fun _ _ _ _=>rfl,hfrm.mono (fun _ _ h=>h.elim) (fun _ h=>h.elim),fun b o v hv=>(hnew b o v hv).imp id .inl,fun _ _ h=>.inl h,fun _ h=>.inl h⟩
theorem srel_nil (hs:SRel σ L M w):SRel [] (fun _ _=>none) M w:=
 ⟨fun _ _ _=>rfl,fun _ _ _ _ _=>rfl,hs.mem,fun r row l h=>absurd h.1 (by simp),fun r row l h=>absurd h.1 (by simp),fun r row l _ _ _ h=>absurd h.1 (by simp),
  fun r es l _ _ _ h=>absurd h.1 (by simp),fun r row l h=>absurd h.1 (by simp)⟩
theorem rsl_frozen {n r sz off m:Nat} {row:Row} {cs:List DV} {v:Value} {ps:List PV} {l:Loc} (hs:SRel σ L M w) (hn:n<=r) (ha:At σ L r row l) (hw:row.owns=true) (hlen:cs.length=l.n) (hc:Cells L M w l.b l.o cs) (hle:off+m*sz<=cs.length) (hps:ps.length=m*sz)
  (hp:∀ j (h:j<ps.length) (h':off+j<cs.length) (v:Value),VRel L M cs[off+j] v->PRel (QR n σ L M w) ps[j] v) (hv0:row.ver=0) (hx:VRel L M (.rsl r sz off m) v):PRel (QR n σ L M w) (.sl false m ps) v:=by
 cases hx with | rsl hl0 hcap hsp hq=>
 rename_i a cap l'
 have hll:l'=l:=by
  have h1:=ha.2
  rw [hv0,hl0] at h1
  injection h1
 subst hll
 by_cases h0:m*sz=0
 ·exact .sl (fun _=>undef) (fun _=>hsp) hcap (by simp) (fun j hj=>absurd hj (by omega)) (fun j hj=>absurd hj (by omega))
 ·have hcap0:¬ cap=0:=by
   rintro rfl
   have h00:m=0:=by omega
   exact h0 (by rw [h00,Nat.zero_mul])
  obtain ⟨hb,ho,_,_⟩:=hq.resolve_left (fun h=>hcap0 h.1)
  have hcell:∀ j,j<ps.length->∃ v,w.cell? ⟨l'.b,l'.o+(off+j),none⟩=some v/\∃ h':off+j<cs.length,VRel L M cs[off+j] v:=by
   intro j hj
   obtain ⟨v,h1,h2⟩:=hc (off+j) (by omega)
   exact ⟨v,h1,by omega,h2⟩
  refine .sl (fun j=>(w.cell? ⟨l'.b,l'.o+(off+j),none⟩).getD undef) (fun _=>hsp) hcap (by simp) (fun j hj=>?_) (fun j hj=>?_)
  ·obtain ⟨v,h1,h2,_⟩:=hcell j hj
   rw [hb,ho,Nat.add_assoc,frozenMem_in hn ha hw (by omega) (by omega),h1]
   rfl
  ·obtain ⟨v,h1,h2,h3⟩:=hcell j hj
   rw [h1]
   exact hp j hj h2 v h3
theorem thawP_rel {n:Nat} (hs:SRel σ L M w):∀ (d:Nat) {x:DV} {r:PV} {v:Value},Vv n σ d x=some r->VRel L M x v->PRel (QR n σ L M w) r v:=by
 have hp:∀ {x:PV} {v:Value},VRel L M (.p x) v->PRel (QR n σ L M w) (Zs x) v:=by
  intro x v hx
  cases hx with | p h=>exact (loosen_rel h).mono (ZY hs)
 have ho:∀ {r ver sz m:Nat} {cs:List PV} {v:Value},VRel L M (.osl r ver sz m cs) v->PRel (QR n σ L M w) (.sl false m (QP cs)) v:=by
  intro r ver sz m cs v hx
  cases hx with | osl f hl0 hsp hcap hb0 ho hn0 hspr hlen' hm hv=>
  exact (PRel.sl f (fun _=>hsp) hcap (by simp) (fun j hj=>hm j (by rw [(WI cs).1] at hj; exact hj)) (loosens_rel hv)).mono (ZY hs)
 intro d
 induction d with
 | zero=>
  intro x r v h hx
  cases x with
  | p x=>simp only [Vv] at h; injection h with h; subst h; exact hp hx
  | osl r ver sz m cs=>simp only [Vv] at h; injection h with h; subst h; exact ho hx
  | _=>exact absurd h (by simp [Vv])
 | succ d ih=>
  intro x r v h hx
  cases x with
  | p x=>simp only [Vv] at h; injection h with h; subst h; exact hp hx
  | osl r ver sz m cs=>simp only [Vv] at h; injection h with h; subst h; exact ho hx
  | rsl r0 sz off m=>
   simp only [Vv] at h
   split at h
   case isFalse=>exact absurd h (by simp)
   rename_i hn
   obtain ⟨l,hl⟩:∃ l,L r0 0=some l:=by cases hx with | rsl hl0=>exact ⟨_,hl0⟩
   split at h
   ·rename_i cs hr
    split at h
    ·rename_i hle
     injection h with h; subst h
     have ha:At σ L r0 (.arr cs) l:=⟨hr,hl⟩
     obtain ⟨hlen,hc⟩:=hs.row r0 _ l ha
     obtain ⟨hl1,hl2⟩:=WI ((cs.drop off).take (m*sz))
     have hl3:((cs.drop off).take (m*sz)).length=m*sz:=by simp; omega
     refine rsl_frozen hs hn ha rfl (by simpa using hlen) hc (by simpa using hle) (by omega) (fun j hj hj' v' hv'=>?_) rfl hx
     rw [hl2 j (by omega) hj]
     obtain ⟨h4,e⟩:=drop_take_getElem (show j<((cs.drop off).take (m*sz)).length by omega)
     rw [e]
     simp only [List.getElem_map] at hv'
     cases hv' with | p hv'=>exact (loosen_rel hv').mono (ZY hs)
    ·exact absurd h (by simp)
   ·rename_i cs hr
    split at h
    ·rename_i hle
     obtain ⟨ps,hps,rfl⟩:=Option.map_eq_some_iff.1 h
     have ha:At σ L r0 (.mix cs) l:=⟨hr,hl⟩
     obtain ⟨hlen,hc⟩:=hs.row r0 _ l ha
     obtain ⟨hl1,hl2⟩:=mapO_ok hps
     have hl3:((cs.drop off).take (m*sz)).length=m*sz:=by simp; omega
     refine rsl_frozen hs hn ha rfl hlen hc hle (by omega) (fun j hj hj' v' hv'=>?_) rfl hx
     have h5:=hl2 j (by omega) hj
     rw [List.getElem_take,List.getElem_drop] at h5
     exact ih h5 hv'
    ·exact absurd h (by simp)
   ·exact absurd h (by simp)
  | _=>exact absurd h (by simp [Vv])
theorem thaw1_rel {n:Nat} {L0:Locs} (hs:SRel σ L M w) {x r:DV} {v:Value} (h:Uu n σ x=some r) (hx:VRel L M x v):VRel L0 (QR n σ L M w) r v:=by
 unfold Uu at h
 split at h
 ·rename_i r0 off
  split at h
  case isFalse=>exact absurd h (by simp)
  rename_i hn
  cases hx with | ptr hl=>
  rename_i l
  have key:∀ (row:Row) (cs:List DV) (ps:List PV),At σ L r0 row l->row.owns=true->cs.length=l.n->Cells L M w l.b l.o cs->ps.length=cs.length->
    (∀ j (h:j<ps.length) (h':j<cs.length) (v:Value),VRel L M cs[j] v->PRel (QR n σ L M w) ps[j] v)->VRel L0 (QR n σ L M w) (.pptr ps off) (.pointer (some ⟨l.b,l.o+off,none⟩)):=by
   intro row cs ps ha hw hlen hc hps hp
   refine .pptr (fun j=>(w.cell? ⟨l.b,l.o+j,none⟩).getD undef) (fun j hj=>?_) (fun j hj=>?_)
   ·obtain ⟨v,h1,h2⟩:=hc j (by omega)
    rw [frozenMem_in hn ha hw (by omega) (by omega),h1]
    rfl
   ·obtain ⟨v,h1,h2⟩:=hc j (by omega)
    rw [h1]
    exact hp j hj (by omega) v h2
  split at h
  ·rename_i cs hr
   obtain ⟨ps,hps,rfl⟩:=Option.map_eq_some_iff.1 h
   have ha:At σ L r0 (.mix cs) l:=⟨hr,hl⟩
   obtain ⟨hlen,hc⟩:=hs.row r0 _ l ha
   obtain ⟨h1,h2⟩:=mapO_ok hps
   exact key _ cs ps ha rfl hlen hc h1 fun j hj hj' v hv=>thawP_rel hs 3 (h2 j hj' hj) hv
  ·rename_i cs hr
   injection h with h; subst h
   have ha:At σ L r0 (.arr cs) l:=⟨hr,hl⟩
   obtain ⟨hlen,hc⟩:=hs.row r0 _ l ha
   obtain ⟨h1,h2⟩:=WI cs
   refine key _ (cs.map .p) (QP cs) ha rfl (by simpa using hlen) hc (by simpa using h1) fun j hj hj' v hv=>?_
   rw [h2 j (by omega) hj]
   simp only [List.getElem_map] at hv
   cases hv with | p hv=>exact (loosen_rel hv).mono (ZY hs)
  ·exact absurd h (by simp)
 ·injection h with h; subst h
  cases hx with | pptr vs hm hv=>exact .pptr vs (fun j hj=>ZY hs _ _ _ (hm j hj)) (fun j hj=>(hv j hj).mono (ZY hs))
 ·obtain ⟨p,hp,rfl⟩:=Option.map_eq_some_iff.1 h
  exact .p (thawP_rel hs 4 hp hx)
theorem thaw_rel {n:Nat} {L0:Locs} (hs:SRel σ L M w) {x r:DV} {v:Value} (h:thaw n σ x=some r) (hx:VRel L M x v):VRel L0 (QR n σ L M w) r v:=by
 unfold thaw at h
 split at h
 ·obtain ⟨q,hq,rfl⟩:=Option.map_eq_some_iff.1 h
  cases hx with | fn h1 h2=>
  obtain ⟨h3,h4⟩:=mapO_ok hq
  exact .fn (by omega) (fun j a b=>thaw1_rel hs (h4 j (by omega) a) (h2 j (by omega) b))
 ·exact thaw1_rel hs h hx
theorem thawPart_rel {n:Nat} {L0:Locs} (hs:SRel σ L M w) {x r:DV} {v:Value} (h:Zx n σ x=some r) (hx:VRel L M x v):VRel L0 (QR n σ L M w) r v:=by
 unfold Zx at h
 split at h
 ·obtain ⟨q,hq,rfl⟩:=Option.map_eq_some_iff.1 h
  obtain ⟨vs,rfl,h1,h2⟩:=Ve hx
  obtain ⟨h3,h4⟩:=mapO_ok hq
  exact .agg (by omega) (fun j a b=>thaw_rel hs (h4 j (by omega) a) (h2 j (by omega) b))
 ·exact thaw_rel hs h hx
theorem thawAll_rel {n:Nat} {L0:Locs} (hs:SRel σ L M w) {x r:DV} {v:Value} (h:Ze n σ x=some r) (hx:VRel L M x v):VRel L0 (QR n σ L M w) r v:=by
 unfold Ze at h
 split at h
 ·obtain ⟨q,hq,rfl⟩:=Option.map_eq_some_iff.1 h
  cases hx with | tuple h1 h2=>
  obtain ⟨h3,h4⟩:=mapO_ok hq
  exact .tuple (by omega) (fun j a b=>thawPart_rel hs (h4 j (by omega) a) (h2 j (by omega) b))
 ·exact thawPart_rel hs h hx
theorem same_len {x r:DV} {x':Value} (hs:SRel σ L M w) (h:len P t x σ=some r) (hx:VRel L M x x') {ty:TypeId}:Same P (Builtin.len_ #[t] ty #[x']) w (VRel L M r):=by
 unfold len at h
 split at h
 ·rename_i s hu; injection h with h; subst h; cases Vc hx
  exact ⟨_,by simp [Builtin.len_,run_underlying hu]; rfl,.p (.int _ _)⟩
 ·rename_i n e hu; injection h with h; subst h
  exact ⟨_,by simp [Builtin.len_,run_underlying hu]; rfl,.p (.int _ _)⟩
 ·rename_i e hu; injection h with h; subst h; cases Wv hx
  exact ⟨_,by simp [Builtin.len_,run_underlying hu]; rfl,.p (.int _ _)⟩
 ·rename_i e ex n cs hu; injection h with h; subst h
  cases hx with | p hp=>cases hp with | sl f hsp hc he hm hv=>
  exact ⟨_,by simp [Builtin.len_,run_underlying hu]; rfl,.p (.int _ _)⟩
 ·rename_i e r0 ver sz n cs hu; injection h with h; subst h
  cases hx with | osl f hl0 hsp hcap hb0 ho hn0 hspr hlen' hm hv=>
  exact ⟨_,by simp [Builtin.len_,run_underlying hu]; rfl,.p (.int _ _)⟩
 ·rename_i e r0 sz off n hu; injection h with h; subst h
  cases hx with | rsl hl0 hcap hsp hq=>
  exact ⟨_,by simp [Builtin.len_,run_underlying hu]; rfl,.p (.int _ _)⟩
 ·rename_i k e hu; injection h with h; subst h; cases nilmap_of hx
  exact ⟨_,by simp [Builtin.len_,run_underlying hu]; rfl,.p (.int _ _)⟩
 ·rename_i k e r0 hu
  cases hx with | map hl=>
  rename_i l
  split at h
  ·rename_i es hr
   injection h with h; subst h
   obtain ⟨vs,clock,h1,h2,h3⟩:=hs.row r0 _ l ⟨hr,hl⟩
   rw [<-h2]
   exact ⟨_,by simp [Builtin.len_,run_underlying hu,run_getObj_map w l.b vs clock h1]; rfl,.p (.int _ _)⟩
  ·exact absurd h (by simp)
 ·exact absurd h (by simp)
theorem run_maxMin {isMax:Bool} {xs:List DV} {xs':Array Value} {r:DV} (h:UA isMax xs=some r) (hx:Vals L M xs xs') {ts:Array TypeId} {ty:TypeId}:Same P (if isMax then Builtin.max_ ts ty xs' else Builtin.min_ ts ty xs') w (VRel L M r):=by
 unfold UA at h
 split at h
 ·rename_i k a k' b
  obtain ⟨h1,h2⟩:=hx
  have e0:=Wd (h2 0 (by simp) (by simp at h1; omega))
  have e1:=Wd (h2 1 (by simp) (by simp at h1; omega))
  have ex:xs' = #[.int k a,.int k' b]:=by
   apply Array.ext
   ·simpa using h1
   ·intro j a1 a2
    match j,a2 with
    | 0,_=>exact e0
    | 1,_=>exact e1
  subst ex
  split at h
  ·rename_i hk
   subst hk
   injection h with h; subst h
   cases isMax
   ·exact ⟨_,by simp [Builtin.min_,Builtin.min2],.p (.int _ _)⟩
   ·exact ⟨_,by simp [Builtin.max_,Builtin.max2],.p (.int _ _)⟩
  ·exact absurd h (by simp)
 ·exact absurd h (by simp)
def Res (P:Program) (act:Act) (o:Oper) (w:World) (R:Value->World->Prop):Prop:=
 (∃ v w',(execOp act.eval o).run P w=.ok (.value v) w'/\R v w')\/(∃ w',(execOp act.eval o).run P w=.ok .skip w'/\R undef w')\/
 (∃ f args w',(execOp act.eval o).run P w=.ok (.enter f args) w'/\∀ F n,Free F->CallsIn F n P f args w' fun e w''=>∃ v,e=.returned v/\R v w'')
theorem Res.wp {act:Act} {o:Oper} {R:Value->World->Prop} (h:Res P act o w R) (hnd:∀ c,o.op≠.defer c) {F:Fence} {n:Nat} (hF:Free F) {K:Act->World->Prop} {Q:Exit->Act->World->Prop} (hk:∀ v w',R v w'->K (act.put o.dst v) w'):o.wpIn F n P act w K Q:=by
 unfold Oper.wpIn
 refine ⟨fun f _=>hF.fn f,?_⟩
 rw [Oper.semAt_eq _ _ _ hnd]
 rcases h with ⟨v,w',h,hr⟩ | ⟨w',h,hr⟩ | ⟨f,args,w',h,hr⟩
 ·rw [h]; exact hk _ _ hr
 ·rw [h]; exact hk _ _ hr
 ·rw [h]
  refine ⟨fun hd=>by rw [hF.depth] at hd; exact absurd hd (by simp),CallsIn.mono (hr F _ hF) ?_⟩
  rintro e w'' ⟨v,rfl,hv⟩
  exact hk _ _ hv
theorem Res.mono {act:Act} {o:Oper} {R R':Value->World->Prop} (h:Res P act o w R) (hr:∀ v w',R v w'->R' v w'):Res P act o w R':=by
 rcases h with ⟨v,w',h,h1⟩ | ⟨w',h,h1⟩ | ⟨f,args,w',h,h1⟩
 ·exact .inl ⟨v,w',h,hr _ _ h1⟩
 ·exact .inr (.inl ⟨w',h,hr _ _ h1⟩)
 ·exact .inr (.inr ⟨f,args,w',h,fun F n hF=>CallsIn.mono (h1 F n hF) fun e w'' ⟨v,he,hv⟩=>⟨v,he,hr _ _ hv⟩⟩)
theorem op_not_defer {pl:FPol} {call:Za} {lo:Nat} {a:Qp} {o:Oper} {r:DV×Qa} (h:op P pl call lo a o σ=some r):∀ c,o.op≠.defer c:=by
 intro c hc
 unfold op at h
 rw [hc] at h
 exact absurd h (by simp)
def Done (lo:Nat) (σ:Qa) (L:Locs) (M:Mem) (w:World) (v:DV) (σ':Qa) (v':Value) (w':World):Prop:=∃ L' M',Post lo σ L M w σ' L' M' w'/\VRel L' M' v v'
theorem ZC {act:Act} {o:Oper} {lo:Nat} {s:Sem Value} {r:DV} (he:execOp act.eval o=(do pure (.value (<-s)):Sem Next)) (hs:SRel σ L M w) (h:Same P s w (VRel L M r)):Res P act o w (Done lo σ L M w r σ):=by
 obtain ⟨v,hr,hv⟩:=h
 exact .inl ⟨v,w,by rw [he]; simp [hr],L,M,Post.refl lo hs,hv⟩
theorem ZP {act:Act} {o:Oper} {lo:Nat} {s:Sem Value} {r:DV} (he:execOp act.eval o=(do pure (.value (<-s)):Sem Next)) (h:Un P s lo σ L M w r σ'):Res P act o w (Done lo σ L M w r σ'):=by
 obtain ⟨v,w',L',M',hr,hp,hv⟩:=h
 exact .inl ⟨v,w',by rw [he]; simp [hr],L',M',hp,hv⟩
theorem res_now {act:Act} {o:Oper} {lo:Nat} {v:Value} {r:DV} (he:execOp act.eval o=pure (.value v)) (hs:SRel σ L M w) (hv:VRel L M r v):Res P act o w (Done lo σ L M w r σ):=
 .inl ⟨v,w,by rw [he]; rfl,L,M,Post.refl lo hs,hv⟩
theorem res_skip {act:Act} {o:Oper} {lo:Nat} {s:Sem Unit} {w':World} (he:execOp act.eval o=(do s; pure .skip:Sem Next)) (hr:s.run P w=.ok () w') (hp:Post lo σ L M w σ' L M w'):Res P act o w (Done lo σ L M w .undef σ'):=
 .inr (.inl ⟨w',by rw [he]; simp [hr],L,M,hp,.undef _⟩)
theorem args_rel {a:Qp} {act:Act} (ha:ARel L M a act) (xs:Array Operand):Vals L M (xs.toList.map (ev a)) (xs.map act.eval):=
 ⟨by simp,fun j h1 h2=>by simpa using ha.ev _⟩
theorem Vals.append {as bs:List DV} {as' bs':Array Value} (h:Vals L M as as') (h':Vals L M bs bs'):Vals L M (as++bs) (as'++bs'):=by
 refine ⟨by simp [h.1,h'.1],fun j h1 h2=>?_⟩
 by_cases hj:j<as.length
 ·rw [List.getElem_append_left hj,Array.getElem_append_left (by rw [h.1]; exact hj)]
  exact h.2 _ _ _
 ·rw [List.getElem_append_right (by omega),Array.getElem_append_right (by rw [h.1]; omega)]
  simp only [h.1]
  exact h'.2 _ _ _
theorem opt_rel {a:Qp} {act:Act} (ha:ARel L M a act) (x:Option Operand):(∀ y,x.map (ev a)=some y->∃ y',x.map act.eval=some y'/\VRel L M y y')/\(x.map (ev a)=none->x.map act.eval=none):=by
 cases x with
 | none=>exact ⟨fun y h=>by simp at h,fun _=>rfl⟩
 | some x=>exact ⟨fun y h=>by simp at h; subst h; exact ⟨_,rfl,ha.ev x⟩,fun h=>by simp at h⟩
theorem store_undef (lo:Nat) (x:DV):store P lo t x .undef σ=none:=by
 unfold store
 split
 ·split
  ·unfold Zo
   split
   ·split
    ·split
     ·simp [DV.cells,DV.one]
     ·simp [DV.cells,Vg,DV.pure?]
     ·rfl
    ·rfl
   ·rfl
  ·rfl
 ·rfl
theorem parts_rel {a:Qp} {act:Act} (ha:ARel L M a act) (ps:Array (Nat×Operand)):(ps.map fun q=>(q.1,act.eval q.2)).size=(ps.toList.map fun q=>(q.1,ev a q.2)).length/\
  ∀ j (h1:j<(ps.toList.map fun q=>(q.1,ev a q.2)).length) (h2:j<(ps.map fun q=>(q.1,act.eval q.2)).size),(ps.map fun q=>(q.1,act.eval q.2))[j].1=(ps.toList.map fun q=>(q.1,ev a q.2))[j].1/\VRel L M (ps.toList.map fun q=>(q.1,ev a q.2))[j].2 (ps.map fun q=>(q.1,act.eval q.2))[j].2:=by
 refine ⟨by simp,fun j h1 h2=>?_⟩
 simp only [List.getElem_map,Array.getElem_map,Array.getElem_toList,true_and]
 exact ha.ev _
theorem array_one {α:Type} {xs:Array α} (h:xs.size=1):∃ x,xs = #[x]:=by
 match xs,h with
 | ⟨[x]⟩,_=>exact ⟨x,rfl⟩
theorem array_two {α:Type} {xs:Array α} (h:xs.size=2):∃ x y,xs = #[x,y]:=by
 match xs,h with
 | ⟨[x,y]⟩,_=>exact ⟨x,y,rfl⟩
set_option maxHeartbeats 1000000 in
theorem op_ok {pl:FPol} {call:Za} {lo:Nat} {a:Qp} {act:Act} {o:Oper} {r:DV} (hc:UV P call) (hlo:lo<=σ.length) (hs:SRel σ L M w) (ha:ARel L M a act) (h:op P pl call lo a o σ=some (r,σ')):Res P act o w (Done lo σ L M w r σ'):=by
 have hex:execOp act.eval o=execOp act.eval o:=rfl
 unfold op at h
 split at h
 ·
  rename_i x ho
  injection h with h; injection h with h1 h2; subst h1; subst h2
  exact res_now (by unfold execOp; rw [ho]) hs (ha.ev x)
 ·rename_i x ho
  injection h with h; injection h with h1 h2; subst h1; subst h2
  exact res_now (by unfold execOp; rw [ho]) hs (ha.ev x)
 ·
  rename_i c x y ho
  split at h
  ·rename_i b hb
   injection h with h; injection h with h1 h2; subst h1; subst h2
   have hcb:=WB (hb ▸ ha.ev c)
   refine .inl ⟨if b then act.eval x else act.eval y,w,?_,L,M,Post.refl lo hs,?_⟩
   ·unfold execOp; rw [ho]; simp [hcb,asBool]
   ·cases b
    ·exact ha.ev y
    ·exact ha.ev x
  ·exact absurd h (by simp)
 ·
  rename_i t ho
  obtain ⟨z,hz,he⟩:=Option.map_eq_some_iff.1 h
  injection he with h1 h2; subst h1; subst h2
  obtain ⟨v,w',L',M',hr,hp,hv⟩:=alloc_ok lo hs hz
  exact ZP (s:=Instr.alloc t true (.tuple #[])) (by unfold execOp; rw [ho]) ⟨v,w',L',M',hr,hp,hv⟩
 ·
  rename_i t x ho
  split at h
  ·obtain ⟨q,hq,he⟩:=Option.map_eq_some_iff.1 h
   injection he with h1 h2; subst h1; subst h2
   obtain ⟨v,w',L',M',hr,hp,hv⟩:=pbox_ok (t:=t) lo hs hq (ha.ev x)
   exact ZP (s:=Instr.box t (act.eval x)) (by unfold execOp; rw [ho]) ⟨v,w',L',M',hr,hp,hv⟩
  split at h
  ·rename_i hall
   injection h with h; injection h with h1 h2; subst h1; subst h2
   obtain ⟨v,w',L',M',hr,hp,hv⟩:=box_ok (t:=t) lo hs hall (ha.ev x)
   exact ZP (s:=Instr.box t (act.eval x)) (by unfold execOp; rw [ho]) ⟨v,w',L',M',hr,hp,hv⟩
  ·exact absurd h (by simp)
 ·
  rename_i t ps ho
  obtain ⟨q,hq,he⟩:=Option.map_eq_some_iff.1 h
  injection he with h1 h2; subst h1; subst h2
  obtain ⟨hp1,hp2⟩:=parts_rel ha ps
  exact ZC (s:=Instr.build t (ps.map fun q=>(q.1,act.eval q.2))) (by unfold execOp; rw [ho]) hs (same_build hq hp1 hp2 w)
 ·
  rename_i t n ps ho
  obtain ⟨hp1,hp2⟩:=parts_rel ha ps
  exact ZP (s:=Instr.buildSlice t n (ps.map fun q=>(q.1,act.eval q.2))) (by unfold execOp; rw [ho]) (buildSlice_ok lo hs h hp1 hp2)
 ·
  rename_i t x ho
  obtain ⟨q,hq,he⟩:=Option.map_eq_some_iff.1 h
  injection he with h1 h2; subst h1; subst h2
  exact ZC (s:=Instr.loadAt t (act.eval x)) (by unfold execOp; rw [ho]) hs (same_load hs (loadP_some hq) (ha.ev x))
 ·
  rename_i t x y ho
  obtain ⟨q,hq,he⟩:=Option.map_eq_some_iff.1 h
  injection he with h1 h2; subst h1; subst h2
  have hu:ev a y≠.undef:=by intro e; rw [e,store_undef] at hq; exact absurd hq (by simp)
  obtain ⟨w',hr,hp⟩:=store_ok hs hq (ha.ev x) (ha.ev y) hu
  exact res_skip (s:=Instr.storeAt t (act.eval x) (act.eval y)) (by unfold execOp; rw [ho]) hr hp
 ·
  rename_i x ho
  split at h
  ·rename_i r0 off hx
   injection h with h; injection h with h1 h2; subst h1; subst h2
   have:=ha.ev x
   rw [hx] at this
   obtain ⟨ad,had⟩:∃ ad,act.eval x=.pointer (some ad):=by
    generalize act.eval x=gv at this
    cases this
    exact ⟨_,rfl⟩
   refine res_now (v:=act.eval x) ?_ hs this
   unfold execOp; rw [ho]; simp only [had]
  ·rename_i cs off hx
   injection h with h; injection h with h1 h2; subst h1; subst h2
   have:=ha.ev x
   rw [hx] at this
   obtain ⟨ad,had⟩:∃ ad,act.eval x=.pointer (some ad):=by
    generalize act.eval x=gv at this
    cases this
    exact ⟨_,rfl⟩
   refine res_now (v:=act.eval x) ?_ hs this
   unfold execOp; rw [ho]; simp only [had]
  ·exact absurd h (by simp)
 ·
  rename_i bo t x y ty ho
  split at h
  ·rename_i hn
   obtain ⟨q,hq,he⟩:=Option.map_eq_some_iff.1 h
   injection he with h1 h2; subst h1; subst h2
   have hy:y=.const .nilIface:=by
    unfold nilConst at hn
    split at hn
    ·rfl
    ·exact absurd hn (by simp)
   subst hy
   have hsame:Same P (do Go.eqGuard bo t x (.const .nilIface) (act.eval x) (act.eval (.const .nilIface)); Go.binOp bo t (act.eval x) (act.eval (.const .nilIface))) w (VRel L M q):=by
    exact same_ifaceNil hq (ha.ev x) w
   exact ZC (s:=do Go.eqGuard bo t x (.const .nilIface) (act.eval x) (act.eval (.const .nilIface)); Go.binOp bo t (act.eval x) (act.eval (.const .nilIface))) (by unfold execOp; rw [ho]) hs hsame
  obtain ⟨q,hq,he⟩:=Option.map_eq_some_iff.1 h
  injection he with h1 h2; subst h1; subst h2
  exact ZC (s:=do Go.eqGuard bo t x y (act.eval x) (act.eval y); Go.binOp bo t (act.eval x) (act.eval y)) (by unfold execOp; rw [ho]) hs (same_binOp hq (ha.ev x) (ha.ev y) w)
 ·
  rename_i uo t x ho
  obtain ⟨q,hq,he⟩:=Option.map_eq_some_iff.1 h
  injection he with h1 h2; subst h1; subst h2
  exact ZC (s:=Op.unary uo (act.eval x)) (by unfold execOp; rw [ho]) hs (same_unOp hq (ha.ev x) w)
 ·
  rename_i s d x ho
  obtain ⟨q,hq,he⟩:=Option.map_eq_some_iff.1 h
  injection he with h1 h2; subst h1; subst h2
  obtain ⟨v,w',L',M',hr,hp,hv⟩:=convert_ok lo hs hq (ha.ev x)
  exact ZP (s:=Go.convert s d (act.eval x)) (by unfold execOp; rw [ho]) ⟨v,w',L',M',hr,hp,hv⟩
 ·
  rename_i f first caps ho
  split at h
  ·rename_i hf
   injection h with h; injection h with h1 h2; subst h1; subst h2
   have hf0:first = #[]:=Array.eq_empty_of_size_eq_zero hf
   subst hf0
   refine .inl ⟨.func (.func f) #[] (caps.map act.eval),w,?_,L,M,Post.refl lo hs,.fn (by simp) (fun j h1 h2=>by simpa using ha.ev _)⟩
   unfold execOp; rw [ho]; simp [Instr.makeFunc]
  ·exact absurd h (by simp)
 ·
  rename_i t ho
  injection h with h; injection h with h1 h2; subst h1; subst h2
  exact ZP (s:=Instr.makeMap t none) (by unfold execOp; rw [ho]; rfl) (makeMap_ok lo hs)
 ·
  rename_i t l c ho
  exact ZP (s:=Instr.makeSlice t (act.eval l) (act.eval c)) (by unfold execOp; rw [ho]) (makeSlice_ok lo hs h (ha.ev l) (ha.ev c))
 ·
  rename_i t x l hh m ho
  obtain ⟨q,hq,he⟩:=Option.map_eq_some_iff.1 h
  injection he with h1 h2; subst h1; subst h2
  exact ZC (s:=Instr.sliceAt t (act.eval x) (l.map act.eval) (hh.map act.eval) (m.map act.eval)) (by unfold execOp; rw [ho]) hs
   (same_slice hq (ha.ev x) (opt_rel ha l).1 (opt_rel ha l).2 (opt_rel ha hh).1 (opt_rel ha hh).2 (opt_rel ha m).1 (opt_rel ha m).2 w)
 ·
  rename_i t x i ho
  obtain ⟨q,hq,he⟩:=Option.map_eq_some_iff.1 h
  injection he with h1 h2; subst h1; subst h2
  exact ZC (s:=Instr.fieldAt t (act.eval x) i) (by unfold execOp; rw [ho]) hs (same_fieldAddr hq (ha.ev x) w)
 ·rename_i t x i ho
  obtain ⟨q,hq,he⟩:=Option.map_eq_some_iff.1 h
  injection he with h1 h2; subst h1; subst h2
  exact ZC (s:=Instr.field t (act.eval x) i) (by unfold execOp; rw [ho]) hs (same_field hq (ha.ev x) w)
 ·rename_i t x i ho
  obtain ⟨q,hq,he⟩:=Option.map_eq_some_iff.1 h
  injection he with h1 h2; subst h1; subst h2
  exact ZC (s:=Instr.indexAt t (act.eval x) (act.eval i)) (by unfold execOp; rw [ho]) hs (same_indexAddr hq (ha.ev x) (ha.ev i) w)
 ·rename_i t x i ho
  obtain ⟨q,hq,he⟩:=Option.map_eq_some_iff.1 h
  injection he with h1 h2; subst h1; subst h2
  exact ZC (s:=Instr.index t (act.eval x) (act.eval i)) (by unfold execOp; rw [ho]) hs (same_index hq (ha.ev x) (ha.ev i) w)
 ·rename_i t x i ok ho
  obtain ⟨q,hq,he⟩:=Option.map_eq_some_iff.1 h
  injection he with h1 h2; subst h1; subst h2
  exact ZC (s:=Instr.lookup t (act.eval x) (act.eval i) ok) (by unfold execOp; rw [ho]) hs (same_lookup hs hq (ha.ev x) (ha.ev i))
 ·rename_i t m k v ho
  obtain ⟨q,hq,he⟩:=Option.map_eq_some_iff.1 h
  injection he with h1 h2; subst h1; subst h2
  obtain ⟨w',hr,hp⟩:=mapUpdate_ok hs hq (ha.ev m) (ha.ev k) (ha.ev v)
  exact res_skip (s:=Instr.mapUpdate t (act.eval m) (act.eval k) (act.eval v)) (by unfold execOp; rw [ho]) hr hp
 ·
  rename_i x i ho
  split at h
  ·rename_i vs hx
   obtain ⟨q,hq,he⟩:=Option.map_eq_some_iff.1 h
   injection he with h1 h2; subst h1; subst h2
   have:=ha.ev x
   rw [hx] at this
   exact ZC (s:=Instr.extract (act.eval x) i) (by unfold execOp; rw [ho]) hs (same_extract (x:=.tuple vs) hq this w)
  ·exact absurd h (by simp)
 ·
  rename_i c ho
  split at h
  ·rename_i hcal
   split at h
   ·rename_i hsz
    obtain ⟨q,hq,he⟩:=Option.map_eq_some_iff.1 h
    injection he with h1 h2; subst h1; subst h2
    obtain ⟨x,hx⟩:=array_one hsz.1
    obtain ⟨t1,ht1⟩:=array_one hsz.2
    rw [hx,ht1] at hq
    refine ZC (s:=Builtin.len_ #[t1] o.type #[act.eval x]) ?_ hs (same_len hs hq (ha.ev x))
    unfold execOp; rw [ho]; simp [resolve,hcal,invoke,builtin,hx,ht1]
   ·exact absurd h (by simp)
  ·rename_i hcal
   split at h
   ·rename_i hsz
    obtain ⟨x,y,hx⟩:=array_two hsz.1
    obtain ⟨t1,t2,ht1⟩:=array_two hsz.2
    rw [hx,ht1] at h
    refine ZP (s:=Builtin.append_ #[t1,t2] o.type #[act.eval x,act.eval y]) ?_ (append_ok hs h (ha.ev x) (ha.ev y))
    unfold execOp; rw [ho]; simp [resolve,hcal,invoke,builtin,hx,ht1]
   ·exact absurd h (by simp)
  ·rename_i hcal
   obtain ⟨q,hq,he⟩:=Option.map_eq_some_iff.1 h
   injection he with h1 h2; subst h1; subst h2
   have hv:Vals L M (c.args.toList.map (ev a)) (c.args.map act.eval):=args_rel ha c.args
   refine ZC (s:=Builtin.max_ c.argTypes o.type (c.args.map act.eval)) ?_ hs (run_maxMin (isMax:=true) (ts:=c.argTypes) (ty:=o.type) hq hv)
   unfold execOp; rw [ho]; simp [resolve,hcal,invoke,builtin]
  ·rename_i hcal
   obtain ⟨q,hq,he⟩:=Option.map_eq_some_iff.1 h
   injection he with h1 h2; subst h1; subst h2
   have hv:Vals L M (c.args.toList.map (ev a)) (c.args.map act.eval):=args_rel ha c.args
   refine ZC (s:=Builtin.min_ c.argTypes o.type (c.args.map act.eval)) ?_ hs (run_maxMin (isMax:=false) (ts:=c.argTypes) (ty:=o.type) hq hv)
   unfold execOp; rw [ho]; simp [resolve,hcal,invoke,builtin]
  ·rename_i hcal
   split at h
   ·rename_i hsz
    obtain ⟨q,hq,he⟩:=Option.map_eq_some_iff.1 h
    injection he with h1 h2; subst h1; subst h2
    obtain ⟨x,hx⟩:=array_one hsz.1
    obtain ⟨t1,ht1⟩:=array_one hsz.2
    rw [hx,ht1] at hq
    refine ZC (s:=Builtin.cap_ #[t1] o.type #[act.eval x]) ?_ hs (capOp_ok hq (ha.ev x) _)
    unfold execOp; rw [ho]; simp [resolve,hcal,invoke,builtin,hx,ht1]
   ·exact absurd h (by simp)
  ·rename_i hcal
   split at h
   ·rename_i hsz
    obtain ⟨q,hq,he⟩:=Option.map_eq_some_iff.1 h
    injection he with h1 h2; subst h1; subst h2
    obtain ⟨x,hx⟩:=array_one hsz.1
    obtain ⟨t1,ht1⟩:=array_one hsz.2
    rw [hx,ht1] at hq
    refine ZP (s:=Builtin.clear_ #[t1] o.type #[act.eval x]) ?_ (clearOp_ok hs hq (ha.ev x) _)
    unfold execOp; rw [ho]; simp [resolve,hcal,invoke,builtin,hx,ht1]
   ·exact absurd h (by simp)
  ·rename_i hcal
   split at h
   ·rename_i hsz
    obtain ⟨x,y,hx⟩:=array_two hsz.1
    obtain ⟨t1,t2,ht1⟩:=array_two hsz.2
    rw [hx,ht1] at h
    refine ZP (s:=Builtin.copy_ #[t1,t2] o.type #[act.eval x,act.eval y]) ?_ (copyOp_ok hs h (ha.ev x) (ha.ev y) _ _)
    unfold execOp; rw [ho]; simp [resolve,hcal,invoke,builtin,hx,ht1]
   ·exact absurd h (by simp)
  ·exact absurd h (by simp)
  ·rename_i g hcal
   split at h
   ·rename_i f caps hg
    have hgv:=ha.ev g
    rw [hg] at hgv
    obtain ⟨vs,hgc,hvs⟩:∃ vs,act.eval g=.func (.func f) #[] vs/\Vals L M caps vs:=by
     generalize act.eval g=gv at hgv
     cases hgv with | fn hn h=>exact ⟨_,rfl,hn,h⟩
    have hargs:Vals L M (c.args.toList.map (ev a)++caps) (c.args.map act.eval++vs):=by
     exact (args_rel ha c.args).append hvs
    have hrun : ∀ fn, P.funcs[f]? = some fn → (fn.name == "runtime.NumGoroutine") = false → fn.body.isNone = false → (execOp act.eval o).run P w = .ok (.enter f (c.args.map act.eval ++ vs)) w := by
     intro fn h1 h2 h3
     unfold execOp
     rw [ho]
     have h2' : ¬ fn.name = "runtime.NumGoroutine" := by simpa using h2
     have h3':¬ fn.body=none:=by intro e; rw [e] at h3; simp at h3
     simp [resolve,hcal,hgc,Deferred.ofValue,invoke,callFunc,h1,h2',h3']
    split at h
    ·obtain ⟨⟨fn,h1,h2,h3⟩,hcall⟩:=hc _ _ _ _ _ _ h hlo L M w _ hs hargs
     exact .inr (.inr ⟨_,_,w,hrun fn h1 h2 h3,hcall⟩)
    ·unfold WM at h
     have hview:Vals L M ((c.args.toList.map (ev a)++caps).map view) (c.args.map act.eval++vs):=⟨by simpa using hargs.1,fun j h1 h2=>by rw [List.getElem_map]; exact view_rel (hargs.2 j (by simpa using h1) h2)⟩
     split at h
     ·rename_i hfree
      split at h
      ·rename_i v1 σ1 hcl
       obtain ⟨q,hq,he⟩:=Option.map_eq_some_iff.1 h
       injection he with h1 h2; subst h1; subst h2
       have hview0:Vals (fun _ _=>none) M ((c.args.toList.map (ev a)++caps).map view) (c.args.map act.eval++vs):=⟨hview.1,fun j h1 h2=>rowFree_rel (List.all_eq_true.1 hfree _ (List.getElem_mem h1)) (hview.2 j h1 h2)⟩
       obtain ⟨⟨fn,h1,h2,h3⟩,hcall⟩:=hc _ _ _ _ _ _ hcl (Nat.le_refl _) _ M w _ (srel_nil hs) hview0
       refine .inr (.inr ⟨_,_,w,hrun fn h1 h2 h3,fun F n hF=>CallsIn.mono (hcall F n hF) ?_⟩)
       rintro e w'' ⟨v',rfl,L',M',hp,hv⟩
       exact ⟨v',rfl,L,_,post_pure (σ0:=[]) lo hs hp,thawAll_rel hp.srel hq hv⟩
      ·exact absurd h (by simp)
     ·split at h
      ·rename_i v1 σ1 hcl
       obtain ⟨q,hq,he⟩:=Option.map_eq_some_iff.1 h
       injection he with h1 h2; subst h1; subst h2
       obtain ⟨⟨fn,h1,h2,h3⟩,hcall⟩:=hc _ _ _ _ _ _ hcl (Nat.le_refl _) L M w _ hs hview
       refine .inr (.inr ⟨_,_,w,hrun fn h1 h2 h3,fun F n hF=>CallsIn.mono (hcall F n hF) ?_⟩)
       rintro e w'' ⟨v',rfl,L',M',hp,hv⟩
       exact ⟨v',rfl,L,_,post_pure lo hs hp,thawAll_rel hp.srel hq hv⟩
      ·exact absurd h (by simp)
   ·exact absurd h (by simp)
  ·exact absurd h (by simp)
 ·exact absurd h (by simp)
end Go.D
end
/- What D leaves of the store: rows below lo stay, none goes. -/
section
set_option linter.unusedVariables false
set_option linter.unusedSimpArgs false
namespace Go.D
variable {P : Program} {t : TypeId} {σ σ' σ'' : Qa} {lo : Nat}
structure Low (lo:Nat) (σ σ':Qa):Prop where
 len:σ.length<=σ'.length
 low:∀ r,r<lo->r<σ.length->σ'[r]?=σ[r]?
theorem Low.refl (lo:Nat) (σ:Qa):Low lo σ σ:=⟨Nat.le_refl _,fun _ _ _=>rfl⟩
theorem Low.trans (h:Low lo σ σ') (h':Low lo σ' σ''):Low lo σ σ'':=
 ⟨Nat.le_trans h.len h'.len,fun r a b=>by rw [h'.low r a (Nat.lt_of_lt_of_le b h.len),h.low r a b]⟩
theorem Low.new (lo:Nat) (σ:Qa) (row:Row):Low lo σ (σ++[row]):=
 ⟨by simp,fun r _ b=>by rw [List.getElem?_append_left b]⟩
theorem Low.set {r:Nat} (h:lo<=r) (row:Row):Low lo σ (σ.set r row):=
 ⟨by simp,fun r' a b=>by rw [List.getElem?_set_ne (by omega)]⟩
theorem storeN_low {vs:List DV} {x:DV} (h:Zo lo vs σ x=some σ'):Low lo σ σ':=by
 unfold Zo at h
 repeat' (split at h)
 all_goals first
  | (injection h with h; subst h; exact Low.set (by assumption) _)
  | (exfalso; simp at h; done)
theorem store_low {x v:DV} (h:store P lo t x v σ=some σ'):Low lo σ σ':=by
 unfold store at h
 repeat' (split at h)
 all_goals first
  | exact storeN_low h
  | (exfalso; simp at h; done)
theorem makeSlice_low {m:Bool} {l c v:DV} (h:makeSlice P m t l c σ=some (v,σ')):Low lo σ σ':=by
 unfold makeSlice at h
 repeat' (split at h)
 all_goals first
  | (obtain ⟨r,_,he⟩:=Option.map_eq_some_iff.1 h; injection he with _ h2; subst h2; exact Low.new _ _ _)
  | (injection h with h; injection h with _ h2; subst h2; exact Low.new _ _ _)
  | (exfalso; simp at h; done)
theorem buildSlice_low {m:Option Bool} {n:Nat} {ps:List (Nat×DV)} {v:DV} (h:buildSlice P m t n ps σ=some (v,σ')):Low lo σ σ':=by
 unfold buildSlice at h
 repeat' (split at h)
 all_goals first
  | (obtain ⟨r,_,he⟩:=Option.map_eq_some_iff.1 h; injection he with _ h2; subst h2; first | exact Low.new _ _ _ | exact Low.refl _ _)
  | (exfalso; simp at h; done)
theorem append_low {m:Bool} {t2:TypeId} {s x v:DV} (h:append P lo m t t2 s x σ=some (v,σ')):Low lo σ σ':=by
 unfold append at h
 split at h
 ·unfold appMake at h
  repeat' (split at h)
  all_goals first
   | (injection h with h; injection h with _ h2; subst h2; exact Low.new _ _ _)
   | (exfalso; simp at h; done)
 split at h
 case h_2=>exact absurd h (by simp)
 split at h
 case h_2=>exact absurd h (by simp)
 split at h
 ·exact absurd h (by simp)
 split at h
 case h_2=>exact absurd h (by simp)
 split at h
 ·unfold Um at h
  repeat' (split at h)
  all_goals first
   | (obtain ⟨r,_,he⟩:=Option.map_eq_some_iff.1 h; injection he with _ h2; subst h2; exact Low.new _ _ _)
   | (injection h with h; injection h with _ h2; subst h2; first | exact Low.new _ _ _ | exact Low.refl _ _)
   | (exfalso; simp at h; done)
 ·unfold UT at h
  repeat' (split at h)
  all_goals first
   | (obtain ⟨r,_,he⟩:=Option.map_eq_some_iff.1 h; injection he with _ h2; subst h2; exact Low.new _ _ _)
   | (injection h with h; injection h with _ h2; subst h2; first | exact Low.new _ _ _ | exact Low.refl _ _)
   | (exfalso; simp at h; done)
 ·unfold Ux at h
  split at h
  ·rename_i hc
   have hlo:=hc.2.2.2.2.2
   repeat' (split at h)
   all_goals first
    | (obtain ⟨r,_,he⟩:=Option.map_eq_some_iff.1 h; injection he with _ h2; subst h2; exact Low.set hlo _)
    | (exfalso; simp at h; done)
  ·exact absurd h (by simp)
 ·unfold appRow at h
  split at h
  ·rename_i hc
   have hlo:=hc.2.2.2.2
   repeat' (split at h)
   all_goals first
    | (injection h with h; injection h with _ h2; subst h2; first | exact Low.set hlo _ | exact (Low.set hlo _).trans (Low.new _ _ _))
    | (exfalso; simp at h; done)
  ·exact absurd h (by simp)
 ·exact absurd h (by simp)
theorem mapUpdate_low {x k v:DV} (h:mapUpdate P lo t x k v σ=some σ'):Low lo σ σ':=by
 unfold mapUpdate at h
 split at h
 ·split at h
  ·rename_i hc
   split at h
   ·obtain ⟨r,_,he⟩:=Option.map_eq_some_iff.1 h
    subst he
    exact Low.set hc.1 _
   ·exact absurd h (by simp)
  ·exact absurd h (by simp)
 ·exact absurd h (by simp)
def VX (call:Za):Prop:=∀ lo f args σ v σ',call lo f args σ=some (v,σ')->lo<=σ.length->Low lo σ σ'
theorem same_store {x:Option DV} {v:DV} (h:x.map (·,σ)=some (v,σ')):σ'=σ:=by
 obtain ⟨q,_,he⟩:=Option.map_eq_some_iff.1 h
 injection he with _ h2
 exact h2.symm
theorem pureCall_low {call:Za} {f:FuncId} {args:List DV} {v:DV} (h:WM call f args σ=some (v,σ')):Low lo σ σ':=by
 unfold WM at h
 split at h
 ·split at h
  ·have:=same_store h; subst this; exact Low.refl _ _
  ·exact absurd h (by simp)
 ·split at h
  ·have:=same_store h; subst this; exact Low.refl _ _
  ·exact absurd h (by simp)
theorem clearOp_low {x:DV} (h:VJ P lo t x σ=some σ'):Low lo σ σ':=by
 unfold VJ at h
 repeat' (split at h)
 all_goals first
  | (injection h with h; subst h; exact Low.refl _ _)
  | exact storeN_low h
  | (exfalso; simp at h; done)
theorem copyOp_low {x y v:DV} (h:US P lo t x y σ=some (v,σ')):Low lo σ σ':=by
 unfold US at h
 repeat' (split at h)
 all_goals first
  | (injection h with h; injection h with _ h2; subst h2; exact Low.refl _ _)
  | (obtain ⟨q,hq,he⟩:=Option.map_eq_some_iff.1 h; injection he with _ h2; subst h2; first | exact storeN_low hq | exact Low.refl _ _)
  | (exfalso; simp at h; done)
theorem op_low {pl:FPol} {call:Za} {a:Qp} {o:Oper} {v:DV} (hc:VX call) (hlo:lo<=σ.length) (h:op P pl call lo a o σ=some (v,σ')):Low lo σ σ':=by
 unfold op at h
 repeat' (split at h)
 all_goals first
  | (injection h with h; injection h with _ h2; subst h2; first | exact Low.refl _ _ | exact Low.new _ _ _)
  | (have:=same_store h; subst this; exact Low.refl _ _)
  | exact makeSlice_low h
  | exact buildSlice_low h
  | exact append_low h
  | (obtain ⟨q,hq,he⟩:=Option.map_eq_some_iff.1 h; injection he with _ h2; subst h2; first | exact store_low hq | exact mapUpdate_low hq | exact Low.new _ _ _ | exact clearOp_low hq | exact Low.refl _ _)
  | exact copyOp_low h
  | exact hc _ _ _ _ _ _ h hlo
  | exact pureCall_low h
  | (exfalso; simp at h; done)
theorem opsD_low {pl:FPol} {call:Za} {all:Array Oper} {lows:Bool->Qa->Nat} (hc:VX call) (hl:∀ c σ',σ.length<=σ'.length->lo<=lows c σ'/\lows c σ'<=σ'.length):∀ {os:List Oper} {cs:List Bool} {a a':Qp} {σ1:Qa},Low lo σ σ1->
  opsD P pl call all lows os cs a σ1=some (a',σ')->Low lo σ σ'
 | [],cs,a,a',σ1,h1,h=>by
  simp only [opsD,Option.some.injEq,Prod.mk.injEq] at h
  obtain ⟨_,rfl⟩:=h
  exact h1
 | o::os,cs,a,a',σ1,h1,h=>by
  simp only [opsD] at h
  split at h
  ·split at h
   ·rename_i v σ2 ho
    have h2:=op_low hc (hl _ _ h1.len).2 ho
    exact opsD_low hc hl (h1.trans ⟨h2.len,fun r hr hb=>h2.low r (Nat.lt_of_lt_of_le hr (hl _ _ h1.len).1) hb⟩) h
   ·exact absurd h (by simp)
  ·exact opsD_low hc hl h1 h
  ·exact absurd h (by simp)
theorem region_low {pl:FPol} {call:Za} {ops:Array Oper} {draw:Bool} {a a':Qp} (hc:VX call) (hlo:lo<=σ.length) (h:region P pl call lo ops draw a σ=some (a',σ')):Low lo σ σ':=by
 unfold region at h
 split at h
 ·split at h
  ·exact opsD_low hc (fun c σ' hn=>by unfold VH; split <;> omega) (Low.refl lo σ) h
  ·exact absurd h (by simp)
 ·exact opsD_low hc (fun c σ' hn=>⟨Nat.le_refl _,by omega⟩) (Low.refl lo σ) h
theorem rounds_low {run:List DV->Qa->Option (Ex×Qa)} (hrun:∀ xs σ ex σ',lo<=σ.length->run xs σ=some (ex,σ')->Low lo σ σ'):∀ (xss:List (List DV)) {σ σ':Qa} {ex:Ex},lo<=σ.length->ZR run xss σ=some (ex,σ')->Low lo σ σ'
 | [],σ,σ',ex,_,h=>by
  simp only [ZR,Option.some.injEq,Prod.mk.injEq] at h
  obtain ⟨_,rfl⟩:=h
  exact Low.refl _ _
 | xs::xss,σ,σ',ex,hlo,h=>by
  simp only [ZR] at h
  split at h
  ·rename_i σ1 h1
   have h2:=hrun _ _ _ _ hlo h1
   exact h2.trans (rounds_low hrun xss (Nat.le_trans hlo h2.len) h)
  ·exact hrun _ _ _ _ hlo h
theorem code_low {pl:FPol} {call:Za} {fuel:Nat} (hc:VX call):∀ (c:Code) (an:Ann) (a:Qp) (σ:Qa) (ex:Ex) (a':Qp) (σ':Qa),lo<=σ.length->code P pl call fuel lo c an a σ=some (ex,a',σ')->Low lo σ σ':=by
 intro c
 induction c with
 | skip=>
  intro an a σ ex a' σ' hlo h
  simp only [code,Option.some.injEq,Prod.mk.injEq] at h
  obtain ⟨rfl,rfl,rfl⟩:=h
  exact Low.refl _ _
 | region id ops draw=>
  intro an a σ ex a' σ' hlo h
  simp only [code] at h
  obtain ⟨⟨a1,σ1⟩,h1,h2⟩:=Option.map_eq_some_iff.1 h
  simp only [Prod.mk.injEq] at h2
  obtain ⟨rfl,rfl,rfl⟩:=h2
  exact region_low hc hlo h1
 | seq x y ihx ihy=>
  intro an a σ ex a' σ' hlo h
  simp only [code] at h
  split at h
  ·rename_i a1 σ1 h1
   have h2:=ihx _ _ _ _ _ _ hlo h1
   exact h2.trans (ihy _ _ _ _ _ _ (Nat.le_trans hlo h2.len) h)
  ·exact ihx _ _ _ _ _ _ hlo h
 | cond c x y ihx ihy=>
  intro an a σ ex a' σ' hlo h
  simp only [code] at h
  split at h
  ·exact ihx _ _ _ _ _ _ hlo h
  ·exact ihy _ _ _ _ _ _ hlo h
  ·exact absurd h (by simp)
 | block id x ih=>
  intro an a σ ex a' σ' hlo h
  simp only [code] at h
  split at h
  ·rename_i a1 σ1 h1
   simp only [Option.some.injEq,Prod.mk.injEq] at h
   obtain ⟨rfl,rfl,rfl⟩:=h
   exact ih _ _ _ _ _ _ hlo h1
  ·rename_i i a1 σ1 h1
   split at h
   ·simp only [Option.some.injEq,Prod.mk.injEq] at h
    obtain ⟨rfl,rfl,rfl⟩:=h
    exact ih _ _ _ _ _ _ hlo h1
   ·simp only [Option.some.injEq,Prod.mk.injEq] at h
    obtain ⟨rfl,rfl,rfl⟩:=h
    exact ih _ _ _ _ _ _ hlo h1
  ·rename_i a1 σ1 h1
   simp only [Option.some.injEq,Prod.mk.injEq] at h
   obtain ⟨rfl,rfl,rfl⟩:=h
   exact ih _ _ _ _ _ _ hlo h1
  ·exact absurd h (by simp)
 | loop x ih=>
  intro an a σ ex a' σ' hlo h
  simp only [code] at h
  have key:∀ (k:Nat) (a:Qp) (σ:Qa),lo<=σ.length->iter (fun a σ=>code P pl call fuel lo x an.left (an.cut a) σ) k a σ=some (ex,a',σ')->Low lo σ σ':=by
   intro k
   induction k with
   | zero=>intro a σ _ h; exact absurd h (by simp [iter])
   | succ k ihk=>
    intro a σ hlo h
    simp only [iter] at h
    split at h
    ·rename_i a1 σ1 h1
     have h2:=ih _ _ _ _ _ _ hlo h1
     exact h2.trans (ihk _ _ (Nat.le_trans hlo h2.len) h)
    ·exact ih _ _ _ _ _ _ hlo h
  exact key fuel a σ hlo h
 | exit id=>
  intro an a σ ex a' σ' hlo h
  simp only [code,Option.some.injEq,Prod.mk.injEq] at h
  obtain ⟨rfl,rfl,rfl⟩:=h
  exact Low.refl _ _
 | ret=>
  intro an a σ ex a' σ' hlo h
  simp only [code,Option.some.injEq,Prod.mk.injEq] at h
  obtain ⟨rfl,rfl,rfl⟩:=h
  exact Low.refl _ _
 | rangeFunc g ps x y ihx ihy=>
  intro an a σ ex a' σ' hlo h
  simp only [code] at h
  split at h
  case h_2=>exact absurd h (by simp)
  split at h
  case h_2=>exact absurd h (by simp)
  rename_i xss hxss
  split at h
  case isFalse=>exact absurd h (by simp)
  obtain ⟨⟨ex1,σ1⟩,h1,h2⟩:=Option.map_eq_some_iff.1 h
  simp only [Prod.mk.injEq] at h2
  obtain ⟨rfl,rfl,rfl⟩:=h2
  clear hxss
  refine rounds_low ?_ xss hlo h1
  intro xs σ ex σ' hlo h
  unfold ZV at h
  split at h
  ·rename_i a1 σ1 hx
   have hl1:=ihx _ _ _ _ _ _ hlo hx
   split at h
   ·rename_i ex2 a2 σ2 hy
    injection h with h; injection h with h3 h4; subst h4
    exact hl1.trans (ihy _ _ _ _ _ _ (Nat.le_trans hlo hl1.len) hy)
   ·exact absurd h (by simp)
  ·exact absurd h (by simp)
 | _=>
  intro an a σ ex a' σ' hlo h
  simp only [code] at h
  exact absurd h (by simp)
theorem callK_low {pol:FuncId->FPol}:∀ k,VX (callK P pol k)
 | 0=>fun lo f args σ v σ' h=>absurd h (by simp [callK])
 | k+1=>by
  intro lo f args σ v σ' h hlo
  simp only [callK] at h
  split at h
  ·rename_i fn hf
   split at h
   ·rename_i c hname hb
    split at h
    ·exact absurd h (by simp)
    split at h
    ·rename_i a σ1 hcode
     obtain ⟨rs,hrs,he⟩:=Option.map_eq_some_iff.1 h
     injection he with h1 h2
     subst h2
     exact code_low (callK_low k) _ _ _ _ _ _ _ hlo hcode
    ·rename_i a σ1 hcode
     obtain ⟨rs,hrs,he⟩:=Option.map_eq_some_iff.1 h
     injection he with h1 h2
     subst h2
     exact code_low (callK_low k) _ _ _ _ _ _ _ hlo hcode
    ·exact absurd h (by simp)
   ·exact absurd h (by simp)
  ·exact absurd h (by simp)
end Go.D
end
/- Rows made in any order: parts of a memory put together. -/
section
set_option linter.unusedVariables false
set_option linter.unusedSimpArgs false
namespace Go.D
variable {P : Program} {σ σ0 σ1 σk : Qa} {L L0 L1 Lk : Locs} {M M1 : Mem} {w w' : World}
def cutL (L:Locs) (n:Nat):Locs:=fun r k=>if r<n then L r k else none
theorem cutL_le {n m:Nat} {L':Locs} (hn:n<=m) (h:∀ r k l,r<n->L r k=some l->L' r k=some l):(cutL L n).le (cutL L' m):=by
 intro r k l hl
 unfold cutL at *
 split at hl
 ·rename_i hr
  rw [if_pos (by omega)]
  exact h r k l hr hl
 ·exact absurd hl (by simp)
theorem cutL_self (h:∀ r k,σ.length<=r->L r k=none):cutL L σ.length=L:=by
 funext r k
 unfold cutL
 split
 ·rfl
 ·rw [h r k (by omega)]
abbrev Pre (σ σ':Qa):Prop:=Low σ.length σ σ'
theorem Pre.get (h:Pre σ σ1) {r:Nat} (hr:r<σ.length):σ1[r]?=σ[r]?:=h.low r hr hr
theorem Pre.trans' (h:Pre σ σ0) (h':Pre σ0 σ1):Pre σ σ1:=
 ⟨Nat.le_trans h.len h'.len,fun r a b=>by rw [h'.low r (Nat.lt_of_lt_of_le b h.len) (Nat.lt_of_lt_of_le b h.len),h.low r a b]⟩
theorem RowRel.mono {l:Loc} {row:Row} (h:RowRel L M w l row) (hL:L.le L1):RowRel L1 M w l row:=by
 cases row with
 | arr cs=>exact ⟨h.1,h.2.mono hL (Mem.le_refl _) fun j v hj hc=>hc⟩
 | mix cs=>exact ⟨h.1,h.2.mono hL (Mem.le_refl _) fun j v hj hc=>hc⟩
 | tok v=>exact h
 | map es=>
  obtain ⟨vs,clock,h1,h2,h3⟩:=h
  exact ⟨vs,clock,h1,h2,fun j h4 h5=>⟨(h3 j h4 h5).1.mono hL (Mem.le_refl _),(h3 j h4 h5).2.mono hL (Mem.le_refl _)⟩⟩
 | dead=>trivial
theorem SRel.extend (h:SRel σ L M w) (hp:Pre σ σ1):SRel σ1 L M w:=by
 have hat:∀ {r row l},At σ1 L r row l->At σ L r row l:=by
  intro r row l ha
  have hr:r<σ.length:=by
   rcases Nat.lt_or_ge r σ.length with h1 | h1
   ·exact h1
   ·have:=ha.2; rw [h.fresh r _ h1] at this; exact absurd this (by simp)
  exact ⟨by rw [<-hp.get hr]; exact ha.1,ha.2⟩
 refine ⟨fun r k hr=>h.fresh r k (Nat.le_trans hp.len hr),fun r v k hv hk=>?_,h.mem,fun r row l ha=>h.row r row l (hat ha),fun r row l ha=>h.own r row l (hat ha),
  fun r row l r' row' l' ha ha'=>h.disj r row l r' row' l' (hat ha) (hat ha'),fun r es l r' es' l' ha ha'=>h.maps r es l r' es' l' (hat ha) (hat ha'),fun r row l ha=>h.away r row l (hat ha)⟩
 rcases Nat.lt_or_ge r σ.length with h1 | h1
 ·exact h.ver r v k (by rw [<-hp.get h1]; exact hv) hk
 ·exact h.fresh r k h1
theorem Post.extend (lo:Nat) (h:SRel σ L M w) (hp:Pre σ σ1):Post lo σ L M w σ1 L M w:=by
 have hat:∀ {r row l},At σ1 L r row l->At σ L r row l:=by
  intro r row l ha
  have hr:r<σ.length:=by
   rcases Nat.lt_or_ge r σ.length with h1 | h1
   ·exact h1
   ·have:=ha.2; rw [h.fresh r _ h1] at this; exact absurd this (by simp)
  exact ⟨by rw [<-hp.get hr]; exact ha.1,ha.2⟩
 exact ⟨h.extend hp,Locs.le_refl _,Mem.le_refl _,hp.len,fun r _ hr=>hp.get hr,fun _ _ _ _=>rfl,Frm.refl _ _ _,fun _ _ _ h=>.inl h,
  fun b o ⟨r,row,l,h1,h2,h3⟩=>.inl ⟨r,row,l,h1,hat h2,h3⟩,fun b ⟨r,es,l,h1,h2,h3⟩=>.inl ⟨r,es,l,h1,hat h2,h3⟩⟩
theorem SRel.beside {σx:Qa} {Lx:Locs} (hk:SRel σk Lk M w) (hp:Post σ0.length σ0 L0 M w σx Lx M1 w'):SRel σk Lk M1 w':=by
 have hfrm:Frm (fun _ _=>False) (fun _=>False) w w':=hp.frm.mono (fun b o h=>Jb h) (fun b h=>no_wm h)
 refine hk.grow hfrm hp.mle fun b o v hv=>?_
 rcases hp.mnew b o v hv with h1 | h1 | h1
 ·exact .inl h1
 ·refine .inr ⟨hp.srel.mem b o v hv,fun r row l ha ho hl=>?_⟩
  have:=hk.own_lt ha ho hl
  omega
 ·exact (Jb h1).elim
theorem SRel.join (hk:SRel σk Lk M w) (hp:Post σ0.length σ0 L0 M w σ1 L1 M1 w') (hpre:Pre σ1 σk) (hL0:∀ r k,r<σ0.length->Lk r k=L0 r k) (hnone:∀ r k,σ0.length<=r->r<σ1.length->Lk r k=none) :
  SRel σk (fun r k=>if r<σ1.length then L1 r k else Lk r k) M1 w':=by
 have hk':=hk.beside hp
 have h1:=hp.srel
 have hold:∀ r k,r<σ0.length->L1 r k=Lk r k:=fun r k hr=>by rw [hp.llow r k hr hr,hL0 r k hr]
 have hLk:Lk.le (fun r k=>if r<σ1.length then L1 r k else Lk r k):=by
  intro r k l hl
  show (if r<σ1.length then L1 r k else Lk r k)=some l
  split
  ·rename_i hr
   rcases Nat.lt_or_ge r σ0.length with h2 | h2
   ·rw [hold r k h2]; exact hl
   ·rw [hnone r k h2 hr] at hl; exact absurd hl (by simp)
  ·exact hl
 have hL1:L1.le (fun r k=>if r<σ1.length then L1 r k else Lk r k):=by
  intro r k l hl
  show (if r<σ1.length then L1 r k else Lk r k)=some l
  rcases Nat.lt_or_ge r σ1.length with h2 | h2
  ·rw [if_pos h2]; exact hl
  ·rw [h1.fresh r k h2] at hl; exact absurd hl (by simp)
 have hat:∀ {r row l},At σk (fun r k=>if r<σ1.length then L1 r k else Lk r k) r row l->At σk Lk r row l\/(At σ1 L1 r row l/\σ0.length<=r):=by
  intro r row l ha
  have ha2:(if r<σ1.length then L1 r row.ver else Lk r row.ver)=some l:=ha.2
  split at ha2
  ·rename_i hr
   rcases Nat.lt_or_ge r σ0.length with h2 | h2
   ·exact .inl ⟨ha.1,by rw [<-hold r _ h2]; exact ha2⟩
   ·exact .inr ⟨⟨by rw [<-hpre.get hr]; exact ha.1,ha2⟩,h2⟩
  ·exact .inl ⟨ha.1,ha2⟩
 have hnew:∀ {r row l},At σ1 L1 r row l->σ0.length<=r->row.owns=true->∀ b o,l.has b o->w.heap.size<=b:=by
  intro r row l ha hr ho b o hl
  rcases hp.wr b o ⟨r,row,l,hr,ha,ho,hl⟩ with h2 | h2
  ·exact (Jb h2).elim
  ·exact h2
 have hnewm:∀ {r es l},At σ1 L1 r (.map es) l->σ0.length<=r->w.heap.size<=l.b:=by
  intro r es l ha hr
  rcases hp.wm l.b ⟨r,es,l,hr,ha,rfl⟩ with h2 | h2
  ·exact (no_wm h2).elim
  ·exact h2
 refine ⟨fun r k hr=>?_,fun r v k hv hk2=>?_,h1.mem,fun r row l ha=>?_,fun r row l ha ho o hl=>?_,fun r row l r' row' l' ha ha' ho ho' hne b o hl hl'=>?_,fun r es l r' es' l' ha ha' hne=>?_,fun r row l ha ho b o hl=>?_⟩
 ·show (if r<σ1.length then L1 r k else Lk r k)=none
  rw [if_neg (by have:=hpre.len; omega)]
  exact hk.fresh r k hr
 ·show (if r<σ1.length then L1 r k else Lk r k)=none
  split
  ·rename_i hr
   exact h1.ver r v k (by rw [<-hpre.get hr]; exact hv) hk2
  ·exact hk.ver r v k hv hk2
 ·rcases hat ha with h2 | ⟨h2,h3⟩
  ·exact (hk'.row r row l h2).mono hLk
  ·exact (h1.row r row l h2).mono hL1
 ·rcases hat ha with h2 | ⟨h2,h3⟩
  ·exact hk'.own r row l h2 ho o hl
  ·exact h1.own r row l h2 ho o hl
 ·rcases hat ha with h2 | ⟨h2,h3⟩
  ·rcases hat ha' with h2' | ⟨h2',h3'⟩
   ·exact hk'.disj r row l r' row' l' h2 h2' ho ho' hne b o hl hl'
   ·have h5:=hnew h2' h3' ho' b o hl'
    have h6:=hk.own_lt h2 ho hl
    omega
  ·rcases hat ha' with h2' | ⟨h2',h3'⟩
   ·have h5:=hnew h2 h3 ho b o hl
    have h6:=hk.own_lt h2' ho' hl'
    omega
   ·exact h1.disj r row l r' row' l' h2 h2' ho ho' hne b o hl hl'
 ·rcases hat ha with h2 | ⟨h2,h3⟩
  ·rcases hat ha' with h2' | ⟨h2',h3'⟩
   ·exact hk'.maps r es l r' es' l' h2 h2' hne
   ·have h5:=hnewm h2' h3'
    have h6:=hk.map_lt h2
    omega
  ·rcases hat ha' with h2' | ⟨h2',h3'⟩
   ·have h5:=hnewm h2 h3
    have h6:=hk.map_lt h2'
    omega
   ·exact h1.maps r es l r' es' l' h2 h2' hne
 ·rcases hat ha with h2 | ⟨h2,h3⟩
  ·exact hk'.away r row l h2 ho b o hl
  ·exact h1.away r row l h2 ho b o hl
theorem Post.join (lo:Nat) (hk:SRel σk Lk M w) (hp:Post σ0.length σ0 L0 M w σ1 L1 M1 w') (hpre:Pre σ1 σk) (hL0:∀ r k,r<σ0.length->Lk r k=L0 r k) (hnone:∀ r k,σ0.length<=r->r<σ1.length->Lk r k=none) (hlo:lo<=σ0.length) :
  Post lo σk Lk M w σk (fun r k=>if r<σ1.length then L1 r k else Lk r k) M1 w':=by
 have h1:=hp.srel
 have hold:∀ r k,r<σ0.length->L1 r k=Lk r k:=fun r k hr=>by rw [hp.llow r k hr hr,hL0 r k hr]
 have hat:∀ {r row l},At σk (fun r k=>if r<σ1.length then L1 r k else Lk r k) r row l->At σk Lk r row l\/(At σ1 L1 r row l/\σ0.length<=r):=by
  intro r row l ha
  have ha2:(if r<σ1.length then L1 r row.ver else Lk r row.ver)=some l:=ha.2
  split at ha2
  ·rename_i hr
   rcases Nat.lt_or_ge r σ0.length with h2 | h2
   ·exact .inl ⟨ha.1,by rw [<-hold r _ h2]; exact ha2⟩
   ·exact .inr ⟨⟨by rw [<-hpre.get hr]; exact ha.1,ha2⟩,h2⟩
  ·exact .inl ⟨ha.1,ha2⟩
 refine ⟨hk.join hp hpre hL0 hnone,fun r k l hl=>?_,hp.mle,Nat.le_refl _,fun _ _ _=>rfl,fun r k hr _=>?_,hp.frm.mono (fun b o h=>(Jb h).elim) (fun b h=>(no_wm h).elim),fun b o v hv=>?_,fun b o hw=>?_,fun b hw=>?_⟩
 ·show (if r<σ1.length then L1 r k else Lk r k)=some l
  split
  ·rename_i hr
   rcases Nat.lt_or_ge r σ0.length with h2 | h2
   ·rw [hold r k h2]; exact hl
   ·rw [hnone r k h2 hr] at hl; exact absurd hl (by simp)
  ·exact hl
 ·show (if r<σ1.length then L1 r k else Lk r k)=Lk r k
  split
  ·exact hold r k (by omega)
  ·rfl
 ·rcases hp.mnew b o v hv with h2 | h2 | h2
  ·exact .inl h2
  ·exact .inr (.inl h2)
  ·exact (Jb h2).elim
 ·obtain ⟨r,row,l,h2,h3,h4,h5⟩:=hw
  rcases hat h3 with h6 | ⟨h6,h7⟩
  ·exact .inl ⟨r,row,l,h2,h6,h4,h5⟩
  ·rcases hp.wr b o ⟨r,row,l,h7,h6,h4,h5⟩ with h8 | h8
   ·exact (Jb h8).elim
   ·exact .inr h8
 ·obtain ⟨r,es,l,h2,h3,h4⟩:=hw
  rcases hat h3 with h6 | ⟨h6,h7⟩
  ·exact .inl ⟨r,es,l,h2,h6,h4⟩
  ·rcases hp.wm b ⟨r,es,l,h7,h6,h4⟩ with h8 | h8
   ·exact (no_wm h8).elim
   ·exact .inr h8
end Go.D
end
/- What a region's edges order; what an operation looks at. -/
section
set_option linter.unusedVariables false
set_option linter.unusedSimpArgs false
namespace Go.D
variable {P : Program} {σ σ' : Qa}
def VV (acc:Array Nat) (o:Oper):Nat:=o.after.foldl (fun s e=>if Region.binds .any e then s||| 2 ^ e.on||| acc.getD e.on 0 else s) 0
theorem edges_bit (acc:Array Nat) (k:Nat):∀ (es:List Edge) (s:Nat),(es.foldl (fun s e=>if Region.binds .any e then s||| 2 ^ e.on||| acc.getD e.on 0 else s) s).testBit k=true->
  s.testBit k=true\/∃ e∈es,Region.binds .any e=true/\(e.on=k\/(acc.getD e.on 0).testBit k=true)
 | [],s,h=>.inl h
 | e::es,s,h=>by
  rw [List.foldl_cons] at h
  rcases edges_bit acc k es _ h with h1 | ⟨e',h1,h2⟩
  ·split at h1
   ·rename_i hb
    rw [Nat.testBit_or,Nat.testBit_or,Bool.or_eq_true,Bool.or_eq_true] at h1
    rcases h1 with (h1 | h1) | h1
    ·exact .inl h1
    ·refine .inr ⟨e,List.mem_cons_self,hb,.inl ?_⟩
     rw [Nat.testBit_two_pow] at h1
     simpa using h1
    ·exact .inr ⟨e,List.mem_cons_self,hb,.inr h1⟩
   ·exact .inl h1
  ·exact .inr ⟨e',List.mem_cons_of_mem _ h1,h2⟩
theorem pushes_getD:∀ (l:List Oper) (A:Array Nat) (i:Nat),i<A.size->(l.foldl (fun acc o=>acc.push (VV acc o)) A).getD i 0=A.getD i 0
 | [],A,i,h=>rfl
 | o::l,A,i,h=>by
  rw [List.foldl_cons,pushes_getD l _ i (by simp; omega)]
  simp [Array.getD_eq_getD_getElem?,Array.getElem?_push,show ¬ i=A.size from by omega]
theorem pushes_bit (k:Nat):∀ (l:List Oper) (A:Array Nat) (i:Nat),A.size<=i->((l.foldl (fun acc o=>acc.push (VV acc o)) A).getD i 0).testBit k=true->
  ∃ m o,l[m]?=some o/\i=A.size+m/\∃ e∈o.after,Region.binds .any e=true/\(e.on=k\/(e.on<i/\((l.foldl (fun acc o=>acc.push (VV acc o)) A).getD e.on 0).testBit k=true))
 | [],A,i,hi,h=>by
  rw [List.foldl_nil,Array.getD_eq_getD_getElem?,Array.getElem?_eq_none hi] at h
  simp at h
 | o::l,A,i,hi,h=>by
  rw [List.foldl_cons] at h ⊢
  rcases Nat.lt_or_ge i (A.push (VV A o)).size with h1 | h1
  ·have hi':i=A.size:=by simp at h1; omega
   subst hi'
   rw [pushes_getD l _ _ h1] at h
   have h2:(A.push (VV A o)).getD A.size 0=VV A o:=by simp [Array.getD_eq_getD_getElem?]
   rw [h2] at h
   unfold VV at h
   rw [<-Array.foldl_toList] at h
   rcases edges_bit A k _ _ h with h3 | ⟨e,h3,h4,h5⟩
   ·simp at h3
   ·refine ⟨0,o,rfl,rfl,e,by simpa using h3,h4,?_⟩
    rcases h5 with h5 | h5
    ·exact .inl h5
    ·have he:e.on<A.size:=by
      rcases Nat.lt_or_ge e.on A.size with h6 | h6
      ·exact h6
      ·rw [Array.getD_eq_getD_getElem?,Array.getElem?_eq_none h6] at h5
       simp at h5
     refine .inr ⟨he,?_⟩
     rw [pushes_getD l _ _ (by simp; omega)]
     have:(A.push (VV A o)).getD e.on 0=A.getD e.on 0:=by simp [Array.getD_eq_getD_getElem?,Array.getElem?_push,show ¬ e.on=A.size from by omega]
     rw [this]
     exact h5
  ·obtain ⟨m,o',hm,hi',e,he⟩:=pushes_bit k l _ i h1 h
   refine ⟨m+1,o',hm,?_,e,he⟩
   simp at hi'
   omega
theorem before_bit {ops:Array Oper} {i k:Nat} (h:((Region.before ops).getD i 0).testBit k=true) :
  ∃ o,ops[i]?=some o/\∃ e∈o.after,Region.binds .any e=true/\(e.on=k\/(e.on<i/\((Region.before ops).getD e.on 0).testBit k=true)):=by
 have he:Region.before ops=ops.toList.foldl (fun acc o=>acc.push (VV acc o)) #[]:=by
  unfold Region.before
  rw [<-Array.foldl_toList]
  rfl
 rw [he] at h ⊢
 obtain ⟨m,o,hm,hi,e,h1⟩:=pushes_bit k _ _ i (Nat.zero_le _) h
 refine ⟨o,?_,e,h1⟩
 have:i=m:=by simpa using hi
 subst this
 simpa using hm
def Closed (ops:Array Oper) (ls:Nat->Prop):Prop:=∀ i o,ops[i]?=some o->ls i->∀ e∈o.after,Region.binds .any e=true->ls e.on
theorem closed_bit {ops:Array Oper} {ls:Nat->Prop} (hc:Closed ops ls):∀ (n i k:Nat),i<n->(ls i\/∀ o,ops[i]?=some o->∀ e∈o.after,Region.binds .any e=true->ls e.on)->((Region.before ops).getD i 0).testBit k=true->ls k
 | 0,i,k,h,_,_=>absurd h (by omega)
 | n+1,i,k,hi,hl,h=>by
  obtain ⟨o,ho,e,he,hb,h1⟩:=before_bit h
  have h2:ls e.on:=by
   rcases hl with h3 | h3
   ·exact hc i o ho h3 e he hb
   ·exact h3 o ho e he hb
  rcases h1 with h1 | ⟨h1,h3⟩
  ·rw [<-h1]; exact h2
  ·exact closed_bit hc n e.on k (by omega) (.inl h2) h3
theorem nextStop (W:Nat->Bool) (n:Nat):∀ (d s:Nat),s+d=n->∃ N,s<=N/\N<=n/\(∀ i,s<=i->i<N->W i=false)/\(N=n\/W N=true)
 | 0,s,h=>⟨s,Nat.le_refl _,by omega,fun i h1 h2=>by omega,.inl (by omega)⟩
 | d+1,s,h=>by
  cases hw:W s with
  | true=>exact ⟨s,Nat.le_refl _,by omega,fun i h1 h2=>by omega,.inr hw⟩
  | false=>
   obtain ⟨N,h1,h2,h3,h4⟩:=nextStop W n d (s+1) (by omega)
   refine ⟨N,by omega,h2,fun i h5 h6=>?_,h4⟩
   by_cases h7:i=s
   ·subst h7; exact hw
   ·exact h3 i (by omega) h6
theorem ev_congr {a a':Qp} {x:Operand} (h:∀ t,x=.tmp t->a.getD t .undef=a'.getD t .undef):ev a x=ev a' x:=by
 cases x with
 | tmp t=>exact h t rfl
 | _=>rfl
theorem map_ev {a a':Qp} {xs:List Operand} (h:∀ x∈xs,ev a x=ev a' x):xs.map (ev a)=xs.map (ev a'):=List.map_congr_left h
theorem op_congr {pl:FPol} {call:Za} {lo:Nat} {a a':Qp} {o:Oper} (h:∀ x∈o.op.operands,ev a x=ev a' x):op P pl call lo a o σ=op P pl call lo a' o σ:=by
 unfold op
 have hparts:∀ (ps:Array (Nat×Operand)),(∀ x∈ps.toList.map (·.2),ev a x=ev a' x)->(ps.toList.map fun q=>(q.1,ev a q.2))=(ps.toList.map fun q=>(q.1,ev a' q.2)):=by
  intro ps hp
  refine List.map_congr_left fun q hq=>?_
  rw [hp q.2 (List.mem_map_of_mem hq)]
 cases ho:o.op with
 | call c=>
  rw [ho] at h
  obtain ⟨callee,args,argTypes⟩:=c
  simp only [Op.operands,Call.operands] at h
  cases callee with
  | value g=>
   have h1:ev a g=ev a' g:=h g (by simp)
   have h2:args.toList.map (ev a)=args.toList.map (ev a'):=map_ev fun x hx=>h x (by simp at hx ⊢; simp [hx])
   simp only [h1,h2]
  | builtin b=>
   have h2:∀ x∈args,ev a x=ev a' x:=fun x hx=>h x (by simp [hx])
   have h3:args.toList.map (ev a)=args.toList.map (ev a'):=map_ev fun x hx=>h2 x (by simpa using hx)
   have h4:∀ j,ev a (args.getD j (.const undef))=ev a' (args.getD j (.const undef)):=by
    intro j
    rw [Array.getD_eq_getD_getElem?]
    cases hj:args[j]? with
    | none=>rfl
    | some x=>exact h2 x (Array.mem_of_getElem? hj)
   cases b <;> simp only [h3,h4]
  | invoke m t=>rfl
 | build t ps=>
  rw [ho] at h
  simp only [Op.operands] at h
  simp only [hparts ps fun x hx=>h x (by simpa using hx)]
 | buildSlice t n ps=>
  rw [ho] at h
  simp only [Op.operands] at h
  simp only [hparts ps fun x hx=>h x (by simpa using hx)]
 | makeFunc fr first caps=>
  rw [ho] at h
  simp only [Op.operands] at h
  have h2:caps.toList.map (ev a)=caps.toList.map (ev a'):=map_ev fun x hx=>h x (by simp at hx ⊢; simp [hx])
  cases fr with
  | func f=>simp only [h2]
  | _=>rfl
 | makeMap t r=>cases r <;> rfl
 | slice t x l hi m=>
  rw [ho] at h
  simp only [Op.operands] at h
  have h1:ev a x=ev a' x:=h x (by simp)
  have h2:l.map (ev a)=l.map (ev a'):=by cases l with | none=>rfl | some y=>simp only [Option.map_some,h y (by simp)]
  have h3:hi.map (ev a)=hi.map (ev a'):=by cases hi with | none=>rfl | some y=>simp only [Option.map_some,h y (by simp)]
  have h4:m.map (ev a)=m.map (ev a'):=by cases m with | none=>rfl | some y=>simp only [Option.map_some,h y (by simp)]
  simp only [h1,h2,h3,h4]
 | pick c x y=>
  rw [ho] at h
  simp only [Op.operands] at h
  simp only [h c (by simp),h x (by simp),h y (by simp)]
 | store t x y=>
  rw [ho] at h
  simp only [Op.operands] at h
  simp only [h x (by simp),h y (by simp)]
 | binOp b t x y ty=>
  rw [ho] at h
  simp only [Op.operands] at h
  simp only [h x (by simp),h y (by simp)]
 | makeSlice t x y=>
  rw [ho] at h
  simp only [Op.operands] at h
  simp only [h x (by simp),h y (by simp)]
 | indexAddr t x y=>
  rw [ho] at h
  simp only [Op.operands] at h
  simp only [h x (by simp),h y (by simp)]
 | index t x y=>
  rw [ho] at h
  simp only [Op.operands] at h
  simp only [h x (by simp),h y (by simp)]
 | lookup t x y ok=>
  rw [ho] at h
  simp only [Op.operands] at h
  simp only [h x (by simp),h y (by simp)]
 | mapUpdate t m k v=>
  rw [ho] at h
  simp only [Op.operands] at h
  simp only [h m (by simp),h k (by simp),h v (by simp)]
 | move x=>rw [ho] at h; simp only [Op.operands] at h; simp only [h x (by simp)]
 | assign x=>rw [ho] at h; simp only [Op.operands] at h; simp only [h x (by simp)]
 | box t x=>rw [ho] at h; simp only [Op.operands] at h; simp only [h x (by simp)]
 | load t x=>rw [ho] at h; simp only [Op.operands] at h; simp only [h x (by simp)]
 | nilCheck x=>rw [ho] at h; simp only [Op.operands] at h; simp only [h x (by simp)]
 | unOp u t x=>rw [ho] at h; simp only [Op.operands] at h; simp only [h x (by simp)]
 | convert s d x=>rw [ho] at h; simp only [Op.operands] at h; simp only [h x (by simp)]
 | fieldAddr t x i=>rw [ho] at h; simp only [Op.operands] at h; simp only [h x (by simp)]
 | field t x i=>rw [ho] at h; simp only [Op.operands] at h; simp only [h x (by simp)]
 | extract x i=>rw [ho] at h; simp only [Op.operands] at h; simp only [h x (by simp)]
 | _=>rfl
theorem buildNone {t:TypeId} {n:Nat} {ps:List (Nat×DV)} {v:DV} {σ1:Qa} (h:buildSlice P none t n ps σ=some (v,σ')):σ'=σ/\buildSlice P none t n ps σ1=some (v,σ1):=by
 unfold buildSlice at h ⊢
 cases hu:P.underlying t with
 | none=>rw [hu] at h; exact absurd h (by simp)
 | some u=>
  rw [hu] at h
  cases u with
  | slice e=>
   simp only [] at h ⊢
   cases hs:size? P e with
   | none=>rw [hs] at h; exact absurd h (by simp)
   | some sz=>
    cases hz:Qx P e with
    | none=>rw [hs,hz] at h; exact absurd h (by simp)
    | some z=>
     rw [hs,hz] at h
     simp only [] at h ⊢
     split at h
     ·rename_i hc
      rw [if_pos hc]
      cases hf:fill (fun i=>some (i*sz,sz)) (dups z n) ps with
      | none=>rw [hf] at h; exact absurd h (by simp)
      | some cs=>
       rw [hf] at h
       simp only [] at h ⊢
       obtain ⟨q,hq,he⟩:=Option.map_eq_some_iff.1 h
       injection he with e1 e2
       subst e1
       exact ⟨e2.symm,by rw [hq]; rfl⟩
     ·exact absurd h (by simp)
  | _=>exact absurd h (by simp)
theorem pure_any {pl:FPol} {call:Za} {lo lo':Nat} {a:Qp} {o:Oper} {v:DV} {σ1:Qa} (hp:VM pl o=true) (hnr:pl.isRload o.dst=false) (hns:pl.isSload o.dst=false) (h:op P pl call lo a o σ=some (v,σ')):σ'=σ/\op P pl call lo' a o σ1=some (v,σ1):=by
 unfold VM at hp
 unfold op at h ⊢
 cases ho:o.op with
 | load t x=>
  rw [ho] at h hp
  simp only [hnr,hns,Bool.or_false] at h hp ⊢
  obtain ⟨q,hq,he⟩:=Option.map_eq_some_iff.1 h
  injection he with h1 h2; subst h1
  refine ⟨h2.symm,?_⟩
  unfold Js at hq ⊢
  rw [hp] at hq ⊢
  cases hx:ev a x with
  | pptr cs off=>
   rw [hx] at hq
   simp only [isPptr,Bool.not_true,Bool.and_false,Bool.false_eq_true,if_false] at hq ⊢
   have:load P t (.pptr cs off) σ1=load P t (.pptr cs off) σ:=rfl
   rw [this,hq]
   rfl
  | _=>rw [hx] at hq; simp [isPptr] at hq
 | buildSlice t n ps=>
  rw [ho] at h hp
  simp only [] at h hp ⊢
  have hr:pl.asRow o.dst=none:=by
   unfold FPol.isPbuild at hp
   split at hp
   ·rename_i hd
    simp only [Bool.and_eq_true,Option.isNone_iff_eq_none] at hp
    exact hp.2
   ·exact absurd hp (by simp)
  rw [hr] at h ⊢
  exact buildNone h
 | build t ps=>rw [ho] at h; simp only [] at h ⊢; obtain ⟨q,hq,he⟩:=Option.map_eq_some_iff.1 h; injection he with h1 h2; subst h1; exact ⟨h2.symm,by simp only [hq,Option.map_some]⟩
 | unOp u t x=>rw [ho] at h; simp only [] at h ⊢; obtain ⟨q,hq,he⟩:=Option.map_eq_some_iff.1 h; injection he with h1 h2; subst h1; exact ⟨h2.symm,by simp only [hq,Option.map_some]⟩
 | binOp u t x y z=>
  rw [ho] at h; simp only [] at h ⊢
  split at h
  ·rename_i hn
   rw [if_pos hn]
   obtain ⟨q,hq,he⟩:=Option.map_eq_some_iff.1 h; injection he with h1 h2; subst h1; exact ⟨h2.symm,by simp only [hq,Option.map_some]⟩
  rename_i hn
  rw [if_neg hn]
  obtain ⟨q,hq,he⟩:=Option.map_eq_some_iff.1 h; injection he with h1 h2; subst h1; exact ⟨h2.symm,by simp only [hq,Option.map_some]⟩
 | box t x=>
  rw [ho] at h hp
  simp only [] at h hp ⊢
  rw [if_pos hp] at h ⊢
  obtain ⟨q,hq,he⟩:=Option.map_eq_some_iff.1 h
  injection he with h1 h2
  subst h1
  exact ⟨h2.symm,by simp only [hq,Option.map_some]⟩
 | convert u t x=>rw [ho] at h; simp only [] at h ⊢; obtain ⟨q,hq,he⟩:=Option.map_eq_some_iff.1 h; injection he with h1 h2; subst h1; exact ⟨h2.symm,by simp only [hq,Option.map_some]⟩
 | slice t x l hi m=>rw [ho] at h; simp only [] at h ⊢; obtain ⟨q,hq,he⟩:=Option.map_eq_some_iff.1 h; injection he with h1 h2; subst h1; exact ⟨h2.symm,by simp only [hq,Option.map_some]⟩
 | fieldAddr u t x=>rw [ho] at h; simp only [] at h ⊢; obtain ⟨q,hq,he⟩:=Option.map_eq_some_iff.1 h; injection he with h1 h2; subst h1; exact ⟨h2.symm,by simp only [hq,Option.map_some]⟩
 | field u t x=>rw [ho] at h; simp only [] at h ⊢; obtain ⟨q,hq,he⟩:=Option.map_eq_some_iff.1 h; injection he with h1 h2; subst h1; exact ⟨h2.symm,by simp only [hq,Option.map_some]⟩
 | indexAddr u t x=>rw [ho] at h; simp only [] at h ⊢; obtain ⟨q,hq,he⟩:=Option.map_eq_some_iff.1 h; injection he with h1 h2; subst h1; exact ⟨h2.symm,by simp only [hq,Option.map_some]⟩
 | index u t x=>rw [ho] at h; simp only [] at h ⊢; obtain ⟨q,hq,he⟩:=Option.map_eq_some_iff.1 h; injection he with h1 h2; subst h1; exact ⟨h2.symm,by simp only [hq,Option.map_some]⟩
 | move x=>rw [ho] at h; simp only [] at h ⊢; injection h with h; injection h with h1 h2; subst h1; exact ⟨h2.symm,rfl⟩
 | assign x=>rw [ho] at h; simp only [] at h ⊢; injection h with h; injection h with h1 h2; subst h1; exact ⟨h2.symm,rfl⟩
 | pick c x y=>
  rw [ho] at h
  simp only [] at h ⊢
  split at h
  ·injection h with h; injection h with h1 h2; subst h1; exact ⟨h2.symm,rfl⟩
  ·exact absurd h (by simp)
 | nilCheck x=>
  rw [ho] at h
  simp only [] at h ⊢
  split at h
  ·injection h with h; injection h with h1 h2; subst h1; exact ⟨h2.symm,rfl⟩
  ·injection h with h; injection h with h1 h2; subst h1; exact ⟨h2.symm,rfl⟩
  ·exact absurd h (by simp)
 | makeFunc fr first caps=>
  rw [ho] at h
  cases fr with
  | func f=>
   simp only [] at h ⊢
   split at h
   ·rename_i hs
    injection h with h; injection h with h1 h2; subst h1; exact ⟨h2.symm,by rw [if_pos hs]⟩
   ·exact absurd h (by simp)
  | _=>exact absurd h (by simp)
 | extract x i=>
  rw [ho] at h
  simp only [] at h ⊢
  split at h
  ·obtain ⟨q,hq,he⟩:=Option.map_eq_some_iff.1 h
   injection he with h1 h2; subst h1
   exact ⟨h2.symm,by simp only [hq,Option.map_some]⟩
  ·exact absurd h (by simp)
 | _=>rw [ho] at hp; exact absurd hp (by simp)
end Go.D
end
/- A region's operations, one by one; and in whatever order. -/
section
set_option linter.unusedVariables false
set_option linter.unusedSimpArgs false
namespace Go.D
variable {P : Program} {t : TypeId} {σ σ' : Qa} {L : Locs} {M : Mem} {w : World}
theorem wanted_ok {ops:Array Oper} {a:Qp} {act:Act} {o:Oper} {b:Bool} (ha:ARel L M a act) (h:ZA ops a o=some b):Region.wanted o (yielded ops act.tmps)=b:=by
 unfold ZA at h
 unfold Region.wanted
 split at h
 ·rename_i hg
  injection h with h; subst h
  rw [hg]
 ·rename_i j want hg
  rw [hg]
  split at h
  ·rename_i t ht
   split at h
   ·rename_i c hc
    injection h with h; subst h
    have hv:=ha.get t
    rw [hc] at hv
    have hb:=WB hv
    have hlt:t<act.tmps.size:=by
     rcases Nat.lt_or_ge t act.tmps.size with h1 | h1
     ·exact h1
     ·rw [Array.getD_eq_getD_getElem?,Array.getElem?_eq_none h1] at hb
      simp [undef] at hb
    have e:act.tmps[t]?=some (.bool c):=by
     rw [Array.getElem?_eq_getElem hlt]
     rw [Array.getD_eq_getD_getElem?,Array.getElem?_eq_getElem hlt] at hb
     simpa using hb
    simp [yielded,ht,e]
   ·rename_i hc
    injection h with h; subst h
    have hv:=ha.get t
    rw [hc] at hv
    have hb:act.tmps.getD t undef=.tuple #[]:=by
     generalize act.tmps.getD t undef=q at hv
     cases hv with | tuple hn h=>
     have:=Array.eq_empty_of_size_eq_zero hn
     rw [this]
    have e:∀ b,act.tmps[t]?≠some (.bool b):=by
     intro b he
     rw [Array.getD_eq_getD_getElem?,he] at hb
     simp at hb
    have e2:yielded ops act.tmps j=none:=by
     unfold yielded
     rw [ht]
     cases hq:(some t).bind (act.tmps[·]?) with
     | none=>rfl
     | some q=>cases q <;> first | rfl | exact absurd hq (e _)
    simp [e2]
   ·exact absurd h (by simp)
  ·exact absurd h (by simp)
theorem wanted_congr {ops:Array Oper} {a a':Qp} {o:Oper} (h:∀ t∈o.looksAt ops,a.getD t .undef=a'.getD t .undef):ZA ops a o=ZA ops a' o:=by
 unfold ZA
 cases hg:o.guard with
 | none=>rfl
 | some q=>
  obtain ⟨g,want⟩:=q
  simp only []
  cases ht:(ops[g]?).bind (·.dst) with
  | none=>rfl
  | some t=>
   simp only []
   rw [h t (by simp [Oper.looksAt,hg,ht])]
theorem put_defers {act:Act} {d:Option Tmp} {v:Value}:(act.put d v).defers=act.defers:=by cases d <;> rfl
theorem ops_list_ok {F:Fence} {n:Nat} (hF:Free F) {pl:FPol} {call:Za} {lo:Nat} {all:Array Oper} {Q:Exit->Act->World->Prop} (hc:UV P call):∀ {os:List Oper} {cs:List Bool} {a a':Qp} {σ σ':Qa} {L:Locs} {M:Mem} {w:World} {act:Act},lo<=σ.length->SRel σ L M w->ARel L M a act->
  opsD P pl call all (fun _ _=>lo) os cs a σ=some (a',σ')->(∀ act' w' L' M',Post lo σ L M w σ' L' M' w'->ARel L' M' a' act'->act'.defers=act.defers->Q .normal act' w')->wpListIn F n P all Q os act w
 | [],cs,a,a',σ,σ',L,M,w,act,hlo,hs,ha,h,hQ=>by
  simp only [opsD,Option.some.injEq,Prod.mk.injEq] at h
  obtain ⟨rfl,rfl⟩:=h
  exact hQ act w L M (Post.refl lo hs) ha rfl
 | o::os,cs,a,a',σ,σ',L,M,w,act,hlo,hs,ha,h,hQ=>by
  simp only [opsD] at h
  unfold wpListIn
  split at h
  ·rename_i hw
   rw [if_pos (wanted_ok ha hw)]
   split at h
   ·rename_i v σ1 ho
    refine (op_ok hc hlo hs ha ho).wp (op_not_defer ho) hF fun v' w' ⟨L1,M1,hp,hv⟩=>?_
    exact ops_list_ok hF hc (Nat.le_trans hlo hp.len) hp.srel ((ha.mono hp.lle hp.mle).put o.dst hv) h fun act' w2 L2 M2 hp2 ha2 hd2=>hQ act' w2 L2 M2 (hp.trans hp2) ha2 (hd2.trans put_defers)
   ·exact absurd h (by simp)
  ·rename_i hw
   rw [if_neg (by rw [wanted_ok ha hw]; simp)]
   exact ⟨fun f _=>hF.fn f,ops_list_ok hF hc hlo hs (ha.put o.dst VRel.skip) h fun act' w2 L2 M2 hp2 ha2 hd2=>hQ act' w2 L2 M2 hp2 ha2 (hd2.trans put_defers)⟩
  ·exact absurd h (by simp)
def Trace (P:Program) (pl:FPol) (call:Za) (all:Array Oper) (lows:Bool->Qa->Nat) (os:List Oper) (cs:List Bool) (A:Nat->Qp) (T:Nat->Qa):Prop:=
 ∀ i o,os[i]?=some o->(ZA all (A i) o=some true/\∃ v,op P pl call (lows (cs.getD i true) (T i)) (A i) o (T i)=some (v,T (i+1))/\A (i+1)=put (A i) o.dst v)\/
  (ZA all (A i) o=some false/\T (i+1)=T i/\A (i+1)=put (A i) o.dst .skip)
theorem trace_of {pl:FPol} {call:Za} {all:Array Oper} {lows:Bool->Qa->Nat}:∀ {os:List Oper} {cs:List Bool} {a a':Qp} {σ σ':Qa},opsD P pl call all lows os cs a σ=some (a',σ')->
  ∃ A T,A 0=a/\T 0=σ/\A os.length=a'/\T os.length=σ'/\Trace P pl call all lows os cs A T/\∀ i,i<=os.length->(ZI P pl call all lows os cs a σ)[i]?=some (A i,T i)
 | [],cs,a,a',σ,σ',h=>by
  simp only [opsD,Option.some.injEq,Prod.mk.injEq] at h
  obtain ⟨rfl,rfl⟩:=h
  exact ⟨fun _=>a,fun _=>σ,rfl,rfl,rfl,rfl,fun i o h=>absurd h (by simp),fun i hi=>by simp at hi; subst hi; rfl⟩
 | o::os,cs,a,a',σ,σ',h=>by
  have hcs:cs.headD true=cs.getD 0 true:=by cases cs <;> rfl
  have htl:∀ i,cs.tail.getD i true=cs.getD (i+1) true:=fun i=>by cases cs <;> simp
  simp only [opsD] at h
  have fin:∀ (a1:Qp) (σ1:Qa),opsD P pl call all lows os cs.tail a1 σ1=some (a',σ')->
    ((ZA all a o=some true/\∃ v,op P pl call (lows (cs.getD 0 true) σ) a o σ=some (v,σ1)/\a1=put a o.dst v)\/(ZA all a o=some false/\σ1=σ/\a1=put a o.dst .skip))->
    (ZI P pl call all lows (o::os) cs a σ=(a,σ)::ZI P pl call all lows os cs.tail a1 σ1)->
    ∃ A T,A 0=a/\T 0=σ/\A (o::os).length=a'/\T (o::os).length=σ'/\Trace P pl call all lows (o::os) cs A T/\∀ i,i<=(o::os).length->(ZI P pl call all lows (o::os) cs a σ)[i]?=some (A i,T i):=by
   intro a1 σ1 h1 h2 htr
   obtain ⟨A,T,h3,h4,h5,h6,h7,h8⟩:=trace_of h1
   refine ⟨fun i=>match i with | 0=>a | i+1=>A i,fun i=>match i with | 0=>σ | i+1=>T i,rfl,rfl,h5,h6,fun i o' ho=>?_,fun i hi=>?_⟩
   rotate_left
   ·rw [htr]
    cases i with
    | zero=>rfl
    | succ i=>exact h8 i (by simpa using hi)
   cases i with
   | zero=>
    have:o'=o:=by simpa using ho.symm
    subst this
    simp only [h3,h4]
    exact h2
   | succ i=>
    have:=h7 i o' (by simpa using ho)
    rw [htl] at this
    exact this
  split at h
  ·rename_i hw
   split at h
   ·rename_i v σ1 ho
    exact fin _ _ h (.inl ⟨hw,v,by rw [<-hcs]; exact ho,rfl⟩) (by simp only [ZI,hw,ho])
   ·exact absurd h (by simp)
  ·rename_i hw
   exact fin _ _ h (.inr ⟨hw,rfl,rfl⟩) (by simp only [ZI,hw])
  ·exact absurd h (by simp)
def W (pl:FPol) (ops:Array Oper) (i:Nat):Bool:=(Vn pl ops).getD i true
def Ud (pl:FPol) (ops:Array Oper) (i:Nat):Bool:=match ops[i]? with | some o=>VM pl o | none=>true
def WR (ops:Array Oper) (t i:Nat):Prop:=∃ o,ops[i]?=some o/\o.dst=some t
theorem flags_spec {pl:FPol} {ops:Array Oper} {i:Nat} (hi:i<ops.size) (h:W pl ops i=true):Ud pl ops i=false/\∀ j,j<ops.size->Ud pl ops j=false->i≠j->Zv (Region.before ops) i j=true:=by
 have hp:∀ j (hj:j<ops.size),Ud pl ops j=VM pl ops[j]:=fun j hj=>by simp [Ud,Array.getElem?_eq_getElem hj]
 have he:(Vn pl ops)[i]?=some (!VM pl ops[i]&&(ops.toList.map (VM pl)).zipIdx.all fun (q,j)=>q||i==j||Zv (Region.before ops) i j):=by
  simp [Vn,List.getElem?_zipIdx,Array.getElem?_eq_getElem hi,hi]
 unfold W at h
 rw [List.getD_eq_getElem?_getD,he] at h
 simp only [Option.getD_some,Bool.and_eq_true,Bool.not_eq_true',List.all_eq_true] at h
 refine ⟨by rw [hp i hi]; exact h.1,fun j hj hpj hne=>?_⟩
 have:=h.2 (VM pl ops[j],j) (List.mem_of_getElem? (i:=j) (by simp [List.getElem?_zipIdx,Array.getElem?_eq_getElem hj,hj]))
 simp only [Bool.or_eq_true,beq_iff_eq,hne,or_false] at this
 rcases this with h1 | h1
 ·rw [hp j hj,h1] at hpj; exact absurd hpj (by simp)
 ·exact h1
theorem drawOk_spec {ops:Array Oper} (h:drawOk ops=true) {j:Nat} {o:Oper} (ho:ops[j]?=some o):(∀ e∈o.after,Region.binds .any e=true->e.on<j)/\
  ∀ t,t∈o.dst.toList++o.looksAt ops->∀ i,WR ops t i->i≠j->Zv (Region.before ops) i j=true:=by
 unfold drawOk at h
 simp only [List.all_eq_true] at h
 have hj:=h (o,j) (List.mem_of_getElem? (i:=j) (by simp [List.getElem?_zipIdx,ho]))
 simp only [Bool.and_eq_true,List.all_eq_true] at hj
 refine ⟨fun e he hb=>?_,fun t ht i ⟨o',ho',hd⟩ hne=>?_⟩
 ·have:=Array.all_eq_true_iff_forall_mem.1 hj.1 e he
  simp only [Bool.or_eq_true,Bool.not_eq_true',hb,Bool.true_eq_false,false_or,decide_eq_true_eq] at this
  exact this
 ·have:=hj.2 t ht (t,i) (List.mem_filterMap.2 ⟨(o',i),List.mem_of_getElem? (i:=i) (by simp [List.getElem?_zipIdx,ho']),by simp [hd]⟩)
  simp only [bne_self_eq_false,Bool.false_or,Bool.or_eq_true,beq_iff_eq,hne,false_or] at this
  exact this
structure Setup (P:Program) (pl:FPol) (call:Za) (lo:Nat) (ops:Array Oper) (A:Nat->Qp) (T:Nat->Qa):Prop where
 hc:UV P call
 hcl:VX call
 hlo:lo<=(T 0).length
 ok:drawOk ops=true
 tr:Trace P pl call ops (VH lo) ops.toList (Vn pl ops) A T
 stable:∀ j o t x,ops[j]?=some o->pl.isRload o.dst=true->o.op=.load t x->∀ κ,κ<=ops.size->∃ k n,load P t (ev (A j) x) (T j)=some (.p (.int k n))/\load P t (ev (A j) x) (T κ)=some (.p (.int k n))
 stable2:∀ j o t x,ops[j]?=some o->pl.isSload o.dst=true->o.op=.load t x->∀ κ,κ<=ops.size->blockedB (Region.before ops) (Vn pl ops) j κ=false->∃ v,load P t (ev (A j) x) (T j)=some v/\load P t (ev (A j) x) (T κ)=some v
section
variable {pl : FPol} {call : Za} {lo : Nat} {ops : Array Oper} {A : Nat -> Qp} {T : Nat -> Qa}
theorem Setup.step (S:Setup P pl call lo ops A T) {i:Nat} {o:Oper} (ho:ops[i]?=some o):(ZA ops (A i) o=some true/\∃ v,op P pl call (VH lo (W pl ops i) (T i)) (A i) o (T i)=some (v,T (i+1))/\A (i+1)=put (A i) o.dst v)\/
  (ZA ops (A i) o=some false/\T (i+1)=T i/\A (i+1)=put (A i) o.dst .skip):=S.tr i o (by simpa using ho)
theorem getOp {ops:Array Oper} {i:Nat} (hi:i<ops.size):∃ o,ops[i]?=some o:=⟨_,Array.getElem?_eq_getElem hi⟩
theorem Setup.grow1 (S:Setup P pl call lo ops A T) {i:Nat} (hi:i<ops.size) (hlo:lo<=(T i).length):Low (VH lo (W pl ops i) (T i)) (T i) (T (i+1)):=by
 obtain ⟨o,ho⟩:=getOp hi
 rcases S.step ho with ⟨_,v,h1,_⟩ | ⟨_,h1,_⟩
 ·exact op_low S.hcl (by unfold VH; split <;> omega) h1
 ·rw [h1]; exact Low.refl _ _
theorem Setup.above (S:Setup P pl call lo ops A T):∀ i,i<=ops.size->lo<=(T i).length
 | 0,_=>S.hlo
 | i+1,h=>Nat.le_trans (S.above i (by omega)) (S.grow1 (by omega) (S.above i (by omega))).len
theorem Setup.lens (S:Setup P pl call lo ops A T) {i:Nat}:∀ {k:Nat},i<=k->k<=ops.size->(T i).length<=(T k).length
 | 0,h,_=>by
   have:i=0:=by omega
   subst this; exact Nat.le_refl _
 | k+1,h,hk=>by
  rcases Nat.lt_or_ge i (k+1) with h1 | h1
  ·exact Nat.le_trans (S.lens (by omega) (by omega)) (S.grow1 (by omega) (S.above k (by omega))).len
  ·have:i=k+1:=by omega
   subst this; exact Nat.le_refl _
theorem Setup.pre1 (S:Setup P pl call lo ops A T) {i:Nat} (hi:i<ops.size) (hw:W pl ops i=false):Pre (T i) (T (i+1)):=by
 have:=S.grow1 hi (S.above i (by omega))
 rw [hw] at this
 exact this
theorem Setup.pre (S:Setup P pl call lo ops A T) {i:Nat}:∀ {k:Nat},i<=k->k<=ops.size->(∀ x,i<=x->x<k->W pl ops x=false)->Pre (T i) (T k)
 | 0,h,_,_=>by
   have:i=0:=by omega
   subst this; exact Low.refl _ _
 | k+1,h,hk,hw=>by
  rcases Nat.lt_or_ge i (k+1) with h1 | h1
  ·exact Pre.trans' (S.pre (by omega) (by omega) fun x a b=>hw x a (by omega)) (S.pre1 (by omega) (hw k (by omega) (by omega)))
  ·have:i=k+1:=by omega
   subst this; exact Low.refl _ _
theorem put_getD_ne {a:Qp} {d:Option Tmp} {v:DV} {t:Nat} (h:d≠some t):(put a d v).getD t .undef=a.getD t .undef:=by
 cases d with
 | none=>rfl
 | some d=>
  have:d≠t:=fun e=>h (by rw [e])
  simp [put,List.getD_eq_getElem?_getD,List.getElem?_set_ne this]
theorem put_length {a:Qp} {d:Option Tmp} {v:DV}:(put a d v).length=a.length:=by cases d <;> simp [put]
theorem Setup.frame1 (S:Setup P pl call lo ops A T) {i:Nat} {o:Oper} (ho:ops[i]?=some o):∃ v,A (i+1)=put (A i) o.dst v:=by
 rcases S.step ho with ⟨_,v,_,h⟩ | ⟨_,_,h⟩
 ·exact ⟨v,h⟩
 ·exact ⟨_,h⟩
theorem Setup.len (S:Setup P pl call lo ops A T):∀ i,i<=ops.size->(A i).length=(A 0).length
 | 0,_=>rfl
 | i+1,h=>by
  obtain ⟨o,ho⟩:=getOp (show i<ops.size by omega)
  obtain ⟨v,hv⟩:=S.frame1 ho
  rw [hv,put_length,S.len i (by omega)]
theorem Setup.keep (S:Setup P pl call lo ops A T) {t s:Nat}:∀ {j:Nat},s<=j->j<=ops.size->(∀ i,s<=i->i<j->¬ WR ops t i)->(A j).getD t .undef=(A s).getD t .undef
 | 0,h,_,_=>by
   have:s=0:=by omega
   subst this; rfl
 | j+1,h,hj,hw=>by
  rcases Nat.lt_or_ge s (j+1) with h1 | h1
  ·obtain ⟨o,ho⟩:=getOp (show j<ops.size by omega)
   obtain ⟨v,hv⟩:=S.frame1 ho
   rw [hv,put_getD_ne fun e=>hw j (by omega) (by omega) ⟨o,ho,e⟩]
   exact S.keep (by omega) (by omega) fun i a b=>hw i a (by omega)
  ·have:s=j+1:=by omega
   subst this; rfl
theorem lastWriter (ops:Array Oper) (t:Nat):∀ j,(∃ i,i<j/\WR ops t i/\∀ i',i<i'->i' < j->¬ WR ops t i')\/∀ i,i<j->¬ WR ops t i
 | 0=>.inr fun i h=>absurd h (by omega)
 | j+1=>by
  by_cases hj:WR ops t j
  ·exact .inl ⟨j,by omega,hj,fun i' a b=>by omega⟩
  ·rcases lastWriter ops t j with ⟨i,h1,h2,h3⟩ | h1
   ·refine .inl ⟨i,by omega,h2,fun i' a b=>?_⟩
    by_cases h:i'=j
    ·subst h; exact hj
    ·exact h3 i' a (by omega)
   ·refine .inr fun i hi=>?_
    by_cases h:i=j
    ·subst h; exact hj
    ·exact h1 i (by omega)
structure Tm (ops:Array Oper) (A:Nat->Qp) (ls:Nat->Prop) (C:Nat->Locs) (M:Mem) (L0:Locs) (M0:Mem) (D0:List Deferred) (act:Act):Prop where
 last:∀ t i,WR ops t i->ls i->(∀ i',WR ops t i'->ls i'->i'<=i)->VRel (C (i+1)) M ((A (i+1)).getD t .undef) (act.tmps.getD t undef)
 first:∀ t,(∀ i,WR ops t i->¬ ls i)->VRel L0 M0 ((A 0).getD t .undef) (act.tmps.getD t undef)
 size:act.tmps.size=(A 0).length
 calm:act.defers=D0
theorem actput_ne {act:Act} {d:Option Tmp} {v:Value} {t:Nat} (h:d≠some t):(act.put d v).tmps.getD t undef=act.tmps.getD t undef:=by
 cases d with
 | none=>rfl
 | some d=>
  have:d≠t:=fun e=>h (by rw [e])
  simp [Act.put,Array.getD_eq_getD_getElem?,Array.getElem?_setIfInBounds_ne this]
theorem Tm.step {ls:Nat->Prop} {C C':Nat->Locs} {M M':Mem} {L0:Locs} {M0:Mem} {D0:List Deferred} {act:Act} (h:Tm ops A ls C M L0 M0 D0 act) (hC:∀ i,i<=ops.size->(C i).le (C' i)) (hM:M.le M') {j:Nat} {o:Oper} (ho:ops[j]?=some o) (hlen:(A j).length=(A 0).length)
  (hord:∀ t,o.dst=some t->∀ i,WR ops t i->ls i->i<j) {v:DV} {v':Value} (hA:A (j+1)=put (A j) o.dst v) (hv:VRel (C' (j+1)) M' v v'):Tm ops A (fun i=>ls i\/i=j) C' M' L0 M0 D0 (act.put o.dst v'):=by
 refine ⟨fun t i hw hl hmax=>?_,fun t hno=>?_,?_,?_⟩
 ·by_cases hd:o.dst=some t
  ·have hij:i=j:=by
    rcases hl with h1 | h1
    ·have h2:=hord t hd i hw h1
     have h3:=hmax j ⟨o,ho,hd⟩ (.inr rfl)
     omega
    ·exact h1
   subst hij
   rw [hA,hd]
   simp only [Act.put,D.put,Array.getD_eq_getD_getElem?,List.getD_eq_getElem?_getD,Array.getElem?_setIfInBounds,List.getElem?_set,h.size,hlen]
   by_cases hlt:t<(A 0).length
   ·simpa [hlt] using hv
   ·simp only [hlt,if_true,if_false]; simp only [Option.getD_none]; exact .undef _
  ·rw [actput_ne hd]
   have hl':ls i:=by
    rcases hl with h1 | h1
    ·exact h1
    ·subst h1
     obtain ⟨o',ho',hd'⟩:=hw
     rw [ho] at ho'
     injection ho' with ho'
     subst ho'
     exact absurd hd' hd
   have hi:i<ops.size:=by
    obtain ⟨o',ho',_⟩:=hw
    exact (Array.getElem?_eq_some_iff.1 ho').1
   exact (h.last t i hw hl' fun i' hw' hl''=>hmax i' hw' (.inl hl'')).mono (hC _ (by omega)) hM
 ·have hd:o.dst≠some t:=fun e=>hno j ⟨o,ho,e⟩ (.inr rfl)
  rw [actput_ne hd]
  exact h.first t fun i hw hl=>hno i hw (.inl hl)
 ·cases o.dst with
  | none=>exact h.size
  | some d=>simp [Act.put,h.size]
 ·cases o.dst with
  | none=>exact h.calm
  | some d=>exact h.calm
theorem Tm.cur (S:Setup P pl call lo ops A T) {ls:Nat->Prop} {C:Nat->Locs} {M:Mem} {L0:Locs} {M0:Mem} {D0:List Deferred} {act:Act} (h:Tm ops A ls C M L0 M0 D0 act) {j t:Nat} (hj:j<=ops.size) (hC:∀ i,i<=j->(C i).le (C j)) (hL0:L0.le (C j)) (hM0:M0.le M)
  (hlow:∀ i,WR ops t i->i<j->ls i) (hhigh:∀ i,WR ops t i->ls i->i<j):VRel (C j) M ((A j).getD t .undef) (act.tmps.getD t undef):=by
 rcases lastWriter ops t j with ⟨i,h1,h2,h3⟩ | h1
 ·rw [S.keep (s:=i+1) (by omega) hj fun i' a b=>h3 i' (by omega) b]
  refine (h.last t i h2 (hlow i h2 h1) fun i' hw hl=>?_).mono (hC _ (by omega)) (Mem.le_refl _)
  have:=hhigh i' hw hl
  rcases Nat.lt_or_ge i i' with h4 | h4
  ·exact absurd hw (h3 i' h4 this)
  ·exact h4
 ·rw [S.keep (s:=0) (by omega) hj fun i' a b=>h1 i' b]
  exact (h.first t fun i hw hl=>h1 i (hhigh i hw hl) hw).mono hL0 hM0
def keepT (ts:List Tmp) (a:Qp):Qp:=(List.range a.length).map fun t=>if ts.contains t then a.getD t .undef else .undef
theorem keepT_getD (ts:List Tmp) (a:Qp) (t:Nat):(keepT ts a).getD t .undef=if ts.contains t then a.getD t .undef else .undef:=by
 unfold keepT
 rw [List.getD_eq_getElem?_getD,List.getElem?_map]
 rcases Nat.lt_or_ge t a.length with h | h
 ·simp [List.getElem?_range h]
 ·have h1:(List.range a.length)[t]?=none:=by simp [h]
  rw [h1]
  have h2:a.getD t .undef=.undef:=by rw [List.getD_eq_getElem?_getD,List.getElem?_eq_none h]; rfl
  rw [h2]
  simp
end
end Go.D
end
/- Whatever order is drawn. -/
section
set_option linter.unusedVariables false
set_option linter.unusedSimpArgs false
namespace Go.D
section
variable {F : Fence} {fd : Nat} {P : Program} {pl : FPol} {call : Za} {lo : Nat} {ops : Array Oper} {A : Nat -> Qp} {T : Nat -> Qa}
def kap (p N i:Nat):Nat:=max p (min i N)
structure Inv (pl:FPol) (lo:Nat) (ops:Array Oper) (A:Nat->Qp) (T:Nat->Qa) (L0:Locs) (M0:Mem) (w0:World) (D0:List Deferred) (p N:Nat) (L:Locs) (M:Mem) (ls:Nat->Prop) (act:Act) (w:World):Prop where
 pN:p<=N
 Nn:N<=ops.size
 closed:Closed ops ls
 big:∀ i,i<ops.size->ls i->Ud pl ops i=false->i<N
 done:∀ i,i<p->i<ops.size->Ud pl ops i=false->ls i
 gap:∀ i,p<=i->i<N->W pl ops i=false
 stop:N=ops.size\/W pl ops N=true
 fam:∀ k,p<=k->k<=N->SRel (T k) (cutL L (T k).length) M w
 unmade:∀ i,p<=i->i<N->¬ ls i->∀ r k,(T i).length<=r->r<(T (i+1)).length->L r k=none
 post:Post lo (T 0) L0 M0 w0 (T N) L M w
 tm:Tm ops A ls (fun i=>cutL L (T (kap p N i)).length) M L0 M0 D0 act
theorem Wk {L:Locs} {n r k:Nat} (h:r<n):cutL L n r k=L r k:=if_pos h
theorem cutL_not {L:Locs} {n r k:Nat} (h:n<=r):cutL L n r k=none:=if_neg (by omega)
variable {L0 : Locs} {M0 : Mem} {w0 : World} {D0 : List Deferred} {p N : Nat} {L : Locs} {M : Mem} {ls : Nat -> Prop} {act : Act} {w : World}
theorem Inv.side (S:Setup P pl call lo ops A T) (hI:Inv pl lo ops A T L0 M0 w0 D0 p N L M ls act w) {j:Nat} {o:Oper} (ho:ops[j]?=some o) (hun:¬ ls j) (hready:∀ e∈o.after,Region.binds .any e=true->ls e.on)
  (hord:∀ t,o.dst=some t->∀ i,WR ops t i->ls i->i<j) {κ κ':Nat} (h1:p<=κ) (h2:κ<=N) (hκ:(κ'=κ/\Ud pl ops j=true/\κ=kap p N j)\/(κ'=κ+1/\κ=j/\Ud pl ops j=false/\j<N))
  {v:DV} {v':Value} {w':World} (hd:Done (T κ).length (T κ) (cutL L (T κ).length) M w v (T κ') v' w') (hA:A (j+1)=put (A j) o.dst v) :
  ∃ L' M',Inv pl lo ops A T L0 M0 w0 D0 p N L' M' (fun i=>ls i\/i=j) (act.put o.dst v') w':=by
 obtain ⟨L1,M1,hp,hv⟩:=hd
 have hj:j<ops.size:=(Array.getElem?_eq_some_iff.1 ho).1
 have hκ1:κ<=κ':=by rcases hκ with h | h <;> omega
 have hκ2:κ'<=N:=by rcases hκ with h | h <;> omega
 have hNn:=hI.Nn
 have hlen:(T κ).length<=(T κ').length:=S.lens hκ1 (by omega)
 have hpre:∀ k,κ'<=k->k<=N->Pre (T κ') (T k):=fun k a b=>S.pre a (by omega) fun x c d=>hI.gap x (by omega) (by omega)
 have hold:∀ r k,r<(T κ).length->L1 r k=L r k:=fun r k hr=>by rw [hp.llow r k hr hr,Wk hr]
 have hnone:∀ r k,(T κ).length<=r->r<(T κ').length->L r k=none:=by
  intro r k a b
  rcases hκ with ⟨h,_⟩ | ⟨h3,h4,h5,h6⟩
  ·subst h; omega
  ·subst h4; subst h3
   exact hI.unmade κ h1 h6 hun r k a b
 have hpost:=Post.join lo hI.post.srel hp (hpre N hκ2 (Nat.le_refl _)) (fun r k hr=>(Wk hr).symm) hnone (S.above κ (by omega))
 refine ⟨fun r k=>if r<(T κ').length then L1 r k else L r k,M1,⟨hI.pN,hI.Nn,?_,?_,?_,hI.gap,hI.stop,?_,?_,hI.post.trans hpost,?_⟩⟩
 ·intro i o' ho' hl e he hb
  rcases hl with hl | hl
  ·exact .inl (hI.closed i o' ho' hl e he hb)
  ·subst hl
   rw [ho] at ho'; injection ho' with ho'; subst ho'
   exact .inl (hready e he hb)
 ·intro i hi hl hpi
  rcases hl with hl | hl
  ·exact hI.big i hi hl hpi
  ·subst hl
   rcases hκ with ⟨_,h3,_⟩ | ⟨_,_,_,h6⟩
   ·rw [h3] at hpi; exact absurd hpi (by simp)
   ·exact h6
 ·exact fun i a b c=>.inl (hI.done i a b c)
 ·intro k a b
  rcases Nat.lt_or_ge k κ' with h3 | h3
  ·have h4:k<=κ:=by rcases hκ with h | h <;> omega
   have h5:=(hI.fam k a b).beside hp
   have h6:=S.lens h4 (by omega)
   have:cutL (fun r k=>if r<(T κ').length then L1 r k else L r k) (T k).length=cutL L (T k).length:=by
    funext r k'
    rcases Nat.lt_or_ge r (T k).length with h7 | h7
    ·rw [Wk h7,Wk h7,if_pos (by omega)]
     exact hold r k' (by omega)
    ·rw [cutL_not h7,cutL_not h7]
   rw [this]; exact h5
  ·have h4:=S.lens h3 (by omega:k<=ops.size)
   have h5:=SRel.join (hI.fam k a b) hp (hpre k h3 b) (fun r k' hr=>by rw [Wk hr,Wk (by omega)]) (fun r k' c d=>by rw [Wk (by omega)]; exact hnone r k' c d)
   have:cutL (fun r k=>if r<(T κ').length then L1 r k else L r k) (T k).length=(fun r k'=>if r<(T κ').length then L1 r k' else cutL L (T k).length r k'):=by
    funext r k'
    rcases Nat.lt_or_ge r (T k).length with h7 | h7
    ·simp only [Wk h7]
    ·rw [cutL_not h7,if_neg (by omega),cutL_not h7]
   rw [this]; exact h5
 ·intro i a b hn r k c d
  have hij:i≠j:=fun e=>hn (.inr e)
  have hni:¬ ls i:=fun e=>hn (.inl e)
  have h0:=hI.unmade i a b hni r k c d
  show (if r<(T κ').length then L1 r k else L r k)=none
  split
  ·rename_i hr
   rcases Nat.lt_or_ge r (T κ).length with h3 | h3
   ·rw [hold r k h3]; exact h0
   ·exfalso
    rcases hκ with ⟨h,_⟩ | ⟨h4,h5,h6,h7⟩
    ·subst h; omega
    ·subst h5; subst h4
     rcases Nat.lt_or_ge i κ with h8 | h8
     ·have:=S.lens (show i+1<=κ by omega) (by omega); omega
     ·have:=S.lens (show κ+1<=i by omega) (by omega); omega
  ·exact h0
 ·refine hI.tm.step (fun i hi=>cutL_le (Nat.le_refl _) fun r k l _ h=>hpost.lle r k l h) hp.mle ho (S.len j (by omega)) hord hA (hv.mono ?_ (Mem.le_refl _))
  intro r k l hl
  have hr:r<(T κ').length:=by
   rcases Nat.lt_or_ge r (T κ').length with h | h
   ·exact h
   ·rw [hp.srel.fresh r k h] at hl; exact absurd hl (by simp)
  have hk:κ'<=kap p N (j+1):=by unfold kap at *; rcases hκ with h | h <;> omega
  have hk2:kap p N (j+1)<=ops.size:=by have:=hI.pN; unfold kap; omega
  have:=S.lens hk hk2
  show cutL _ _ r k=some l
  rw [Wk (by omega),if_pos hr]
  exact hl
theorem Inv.turn (S:Setup P pl call lo ops A T) (hI:Inv pl lo ops A T L0 M0 w0 D0 p N L M ls act w) {o:Oper} (ho:ops[N]?=some o) (hready:∀ e∈o.after,Region.binds .any e=true->ls e.on)
  (hord:∀ t,o.dst=some t->∀ i,WR ops t i->ls i->i<N) (hall:∀ i,i<N->Ud pl ops i=false->ls i)
  {v:DV} {v':Value} {w':World} (hd:Done lo (T N) L M w v (T (N+1)) v' w') (hA:A (N+1)=put (A N) o.dst v) :
  ∃ p' N' L' M',Inv pl lo ops A T L0 M0 w0 D0 p' N' L' M' (fun i=>ls i\/i=N) (act.put o.dst v') w':=by
 obtain ⟨L1,M1,hp,hv⟩:=hd
 have hj:N<ops.size:=(Array.getElem?_eq_some_iff.1 ho).1
 obtain ⟨N',h1,h2,h3,h4⟩:=nextStop (W pl ops) ops.size (ops.size-(N+1)) (N+1) (by omega)
 have hpre:∀ k,N+1<=k->k<=N'->Pre (T (N+1)) (T k):=fun k a b=>S.pre a (by omega) fun x c d=>h3 x c (by omega)
 have hfr:=hp.srel.fresh
 refine ⟨N+1,N',L1,M1,⟨h1,h2,?_,?_,?_,h3,h4,?_,?_,hI.post.trans (hp.trans (Post.extend lo hp.srel (hpre N' h1 (Nat.le_refl _)))),?_⟩⟩
 ·intro i o' ho' hl e he hb
  rcases hl with hl | hl
  ·exact .inl (hI.closed i o' ho' hl e he hb)
  ·subst hl
   rw [ho] at ho'; injection ho' with ho'; subst ho'
   exact .inl (hready e he hb)
 ·intro i hi hl hpi
  rcases hl with hl | hl
  ·have:=hI.big i hi hl hpi; omega
  ·omega
 ·intro i a b c
  rcases Nat.lt_or_ge i N with h5 | h5
  ·exact .inl (hall i h5 c)
  ·exact .inr (by omega)
 ·intro k a b
  have:cutL L1 (T k).length=L1:=cutL_self fun r k' hr=>hfr r k' (by have:=S.lens a (by omega:k<=ops.size); omega)
  rw [this]
  exact hp.srel.extend (hpre k a b)
 ·intro i a b hn r k c d
  exact hfr r k (by have:=S.lens a (by omega:i<=ops.size); omega)
 ·refine hI.tm.step (fun i hi=>cutL_le ?_ fun r k l _ h=>hp.lle r k l h) hp.mle ho (S.len N (by omega)) hord hA (hv.mono ?_ (Mem.le_refl _))
  ·refine S.lens ?_ ?_
   ·have:=hI.pN; unfold kap; omega
   ·unfold kap; omega
  ·intro r k l hl
   have hr:r<(T (N+1)).length:=by
    rcases Nat.lt_or_ge r (T (N+1)).length with h | h
    ·exact h
    ·rw [hfr r k h] at hl; exact absurd hl (by simp)
   have hk:N+1<=kap (N+1) N' (N+1):=by unfold kap; omega
   have hk2:kap (N+1) N' (N+1)<=ops.size:=by unfold kap; omega
   have:=S.lens hk hk2
   show cutL _ _ r k=some l
   rw [Wk (by omega)]
   exact hl
theorem count_set:∀ (l:List Bool) (i:Nat),l[i]?=some false->(l.set i true).count false+1=l.count false
 | [],i,h=>absurd h (by simp)
 | b::l,0,h=>by
  have:b=false:=by simpa using h
  subst this
  simp
 | b::l,i+1,h=>by
  have:=count_set l i (by simpa using h)
  cases b <;> simp [List.set_cons_succ] <;> omega
theorem ready_none (S:Setup P pl call lo ops A T) {listed:Array Bool} (hn:listed.size=ops.size) (h:Region.ready .any ops listed=[]):∀ n i,i<n->i<ops.size->listed.getD i false=true
 | 0,i,a,_=>absurd a (by omega)
 | n+1,i,a,hi=>by
  cases hl:listed.getD i false with
  | true=>rfl
  | false=>
   exfalso
   obtain ⟨o,ho⟩:=getOp hi
   have:i∈Region.ready .any ops listed:=mem_ready.2 ⟨by
    rw [Array.getD_eq_getD_getElem?,Array.getElem?_eq_getElem (by omega)] at hl ⊢
    simpa using hl,o,ho,fun e he hb=>ready_none S hn h n e.on (by have:=(drawOk_spec S.ok ho).1 e he hb; omega) (by have:=(drawOk_spec S.ok ho).1 e he hb; omega)⟩
   rw [h] at this
   exact absurd this (by simp)
theorem Inv.finish (S:Setup P pl call lo ops A T) (hI:Inv pl lo ops A T L0 M0 w0 D0 p N L M ls act w) (hL0:SRel (T 0) L0 M0 w0) (hall:∀ i,i<ops.size->ls i):Post lo (T 0) L0 M0 w0 (T ops.size) L M w/\ARel L M (A ops.size) act/\act.defers=D0:=by
 have hN:N=ops.size:=by
  have:=hI.Nn
  rcases hI.stop with h | h
  ·exact h
  ·rcases Nat.lt_or_ge N ops.size with h1 | h1
   ·have:=hI.big N h1 (hall N h1) (flags_spec h1 h).1; omega
   ·omega
 subst hN
 refine ⟨hI.post,⟨by rw [hI.tm.size,S.len _ (Nat.le_refl _)],fun t=>?_⟩,hI.tm.calm⟩
 have hk:kap p ops.size ops.size=ops.size:=by have:=hI.pN; unfold kap; omega
 have hfr:=hI.post.srel.fresh
 have:=hI.tm.cur S (j:=ops.size) (t:=t) (Nat.le_refl _) (fun i hi=>cutL_le (S.lens (by unfold kap; omega) (by have:=hI.pN; unfold kap; omega)) fun _ _ _ _ h=>h)
  (by
   intro r k l hl
   rw [hk]
   have hr:r<(T 0).length:=by
    rcases Nat.lt_or_ge r (T 0).length with h | h
    ·exact h
    ·rw [hL0.fresh r k h] at hl; exact absurd hl (by simp)
   rw [Wk (by have:=S.lens (Nat.zero_le _) (Nat.le_refl ops.size); omega)]
   exact hI.post.lle r k l hl) hI.post.mle
  (fun i hw hi=>hall i hi) (fun i ⟨o,ho,_⟩ _=>(Array.getElem?_eq_some_iff.1 ho).1)
 rw [hk,cutL_self hfr] at this
 exact this
theorem Setup.pureAny (S:Setup P pl call lo ops A T) {j κ lo1 lo2:Nat} {o:Oper} {v:DV} {σ1:Qa} (ho:ops[j]?=some o) (hp:VM pl o=true) (hκ:κ<=ops.size) (hb:blockedB (Region.before ops) (Vn pl ops) j κ=false)
  (h:op P pl call lo1 (A j) o (T j)=some (v,σ1)):op P pl call lo2 (A j) o (T κ)=some (v,T κ):=by
 by_cases hl:∃ t x,o.op=.load t x
 ·obtain ⟨t,x,hx⟩:=hl
  have key:(∃ u,load P t (ev (A j) x) (T j)=some u/\load P t (ev (A j) x) (T κ)=some u)->op P pl call lo2 (A j) o (T κ)=some (v,T κ):=by
   rintro ⟨u,h1,h2⟩
   unfold op at h ⊢
   rw [hx] at h ⊢
   simp only [] at h ⊢
   obtain ⟨q,hq,he⟩:=Option.map_eq_some_iff.1 h
   injection he with e1 e2; subst e1
   have hq2:=loadP_some hq
   rw [h1] at hq2
   unfold Js at hq ⊢
   split at hq
   ·exact absurd hq (by simp)
   ·rename_i hc
    injection hq2 with hq2
    rw [if_neg hc,h2,hq2]
    rfl
  cases hr:pl.isRload o.dst with
  | true=>
   obtain ⟨k,n,h1,h2⟩:=S.stable j o t x ho hr hx κ hκ
   exact key ⟨_,h1,h2⟩
  | false=>
   cases hs:pl.isSload o.dst with
   | true=>exact key (S.stable2 j o t x ho hs hx κ hκ hb)
   | false=>exact (pure_any hp hr hs h).2
 ·have hp2:VM { pl with rload:=[] } o=true:=by
   unfold VM at hp ⊢
   cases hx:o.op with
   | load t x=>exact absurd ⟨t,x,hx⟩ hl
   | _=>first | (rw [hx] at hp; done) | (rw [hx] at hp; exact hp)
  have hop:∀ l a σ,op P { pl with rload:=[] } call l a o σ=op P pl call l a o σ:=by
   intro l a σ
   unfold op
   cases hx:o.op with
   | load t x=>exact absurd ⟨t,x,hx⟩ hl
   | _=>rfl
  rw [<-hop] at h ⊢
  exact (pure_any hp2 (by cases o.dst <;> rfl) (by cases o.dst <;> rfl) h).2
theorem Inv.exec (hF:Free F) (S:Setup P pl call lo ops A T) (hI:Inv pl lo ops A T L0 M0 w0 D0 p N L M ls act w) (hL0:SRel (T 0) L0 M0 w0) {j:Nat} {o:Oper} (ho:ops[j]?=some o) (hun:¬ ls j) (hready:∀ e∈o.after,Region.binds .any e=true->ls e.on)
  {Q:Exit->Act->World->Prop} {K:Act->World->Prop} (hK:∀ act' w',(∃ p' N' L' M',Inv pl lo ops A T L0 M0 w0 D0 p' N' L' M' (fun i=>ls i\/i=j) act' w')->K act' w'):wpOpIn F fd P ops Q j K act w:=by
 have hj:j<ops.size:=(Array.getElem?_eq_some_iff.1 ho).1
 have hpN:=hI.pN
 have hNn:=hI.Nn
 have hbefore:∀ k,((Region.before ops).getD j 0).testBit k=true->ls k:=fun k h=>closed_bit hI.closed (j+1) j k (by omega) (.inr fun o' ho'=>by rw [ho] at ho'; injection ho' with ho'; subst ho'; exact hready) h
 have hafter:∀ i,i<ops.size->ls i->¬ ((Region.before ops).getD i 0).testBit j=true:=fun i hi hl h=>hun (closed_bit hI.closed (i+1) i j (by omega) (.inl hl) h)
 have hin:∀ i,i<j->Zv (Region.before ops) i j=true->ls i:=by
  intro i hi h
  unfold Zv at h
  rw [show max i j=j by omega,show min i j=i by omega] at h
  exact hbefore i h
 have hout:∀ i,i<ops.size->j<i->Zv (Region.before ops) i j=true->¬ ls i:=by
  intro i hi hij h hl
  unfold Zv at h
  rw [show max i j=i by omega,show min i j=j by omega] at h
  exact hafter i hi hl h
 have hlook:=(drawOk_spec S.ok ho).2
 have hlow:∀ t,t∈o.dst.toList++o.looksAt ops->∀ i,WR ops t i->i<j->ls i:=fun t ht i hw hi=>hin i hi (hlook t ht i hw (by omega))
 have hhigh:∀ t,t∈o.dst.toList++o.looksAt ops->∀ i,WR ops t i->ls i->i<j:=by
  intro t ht i hw hl
  rcases Nat.lt_trichotomy i j with h | h | h
  ·exact h
  ·subst h; exact absurd hl hun
  ·have hi:i<ops.size:=by obtain ⟨o',ho',_⟩:=hw; exact (Array.getElem?_eq_some_iff.1 ho').1
   exact absurd hl (hout i hi h (hlook t ht i hw (by omega)))
 have hord:∀ t,o.dst=some t->∀ i,WR ops t i->ls i->i<j:=fun t hd=>hhigh t (by simp [hd])
 have ha:ARel (cutL L (T (kap p N j)).length) M (keepT (o.looksAt ops) (A j)) act:=by
  refine ⟨by simp [keepT,hI.tm.size,S.len j (by omega)],fun t=>?_⟩
  rw [keepT_getD]
  split
  ·rename_i hc
   have ht:t∈o.dst.toList++o.looksAt ops:=by simp at hc ⊢; exact .inr hc
   exact hI.tm.cur S (j:=j) (by omega) (fun i hi=>cutL_le (S.lens (by unfold kap; omega) (by unfold kap; omega)) fun _ _ _ _ h=>h)
    (by
     intro r k l hl
     have hr:r<(T 0).length:=by
      rcases Nat.lt_or_ge r (T 0).length with h | h
      ·exact h
      ·rw [hL0.fresh r k h] at hl; exact absurd hl (by simp)
     show cutL _ _ r k=_
     rw [Wk (by have:=S.lens (Nat.zero_le (kap p N j)) (by unfold kap; omega); omega)]
     exact hI.post.lle r k l hl) hI.post.mle (hlow t ht) (hhigh t ht)
  ·exact .undef _
 have hkeep:∀ t∈o.looksAt ops,(A j).getD t .undef=(keepT (o.looksAt ops) (A j)).getD t .undef:=by
  intro t ht
  rw [keepT_getD,if_pos (by simpa using ht)]
 have hwant:=wanted_congr hkeep
 have hopc:∀ lo' σ,op P pl call lo' (A j) o σ=op P pl call lo' (keepT (o.looksAt ops) (A j)) o σ:=fun lo' σ=>op_congr fun x hx=>ev_congr fun t ht=>hkeep t (by
  unfold Oper.looksAt
  refine List.mem_append_left _ (List.mem_filterMap.2 ⟨x,by simpa using hx,?_⟩)
  rw [ht])
 have hpure:∀ {b},VM pl o=b->Ud pl ops j=b:=fun h=>by simp [Ud,ho,h]
 unfold wpOpIn
 simp only [ho]
 have main:∀ (κ κ' lo':Nat),lo'<=(T κ).length->SRel (T κ) (cutL L (T κ).length) M w->κ=kap p N j->
   (ZA ops (A j) o=some true->∀ v,op P pl call (VH lo (W pl ops j) (T j)) (A j) o (T j)=some (v,T (j+1))->op P pl call lo' (A j) o (T κ)=some (v,T κ'))->
   (ZA ops (A j) o=some false->T (j+1)=T j->T κ'=T κ)->
   (∀ v v' w',A (j+1)=put (A j) o.dst v->Done lo' (T κ) (cutL L (T κ).length) M w v (T κ') v' w'->K (act.put o.dst v') w')->
   (if Region.wanted o (yielded ops act.tmps)=true then o.wpIn F fd P act w K Q else (∀ f,o.about P w act.eval=some f->F.fn f)/\K (act.put o.dst undef) w):=by
  intro κ κ' lo' hlo' hs hκ hrun hskip hfin
  subst hκ
  rcases S.step ho with ⟨hw,v,hop,hA⟩ | ⟨hw,hT,hA⟩
  ·rw [if_pos (wanted_ok ha (by rw [<-hwant]; exact hw))]
   have h1:=hrun hw v hop
   rw [hopc] at h1
   exact (op_ok S.hc hlo' hs ha h1).wp (op_not_defer h1) hF fun v' w' hd=>hfin v v' w' hA hd
  ·rw [if_neg (by rw [wanted_ok ha (by rw [<-hwant]; exact hw)]; simp)]
   exact ⟨fun f _=>hF.fn f,hfin .skip undef w hA ⟨_,_,by rw [hskip hw hT]; exact Post.refl lo' hs,VRel.skip⟩⟩
 cases hp:VM pl o with
 | true=>
  have hpj:=hpure hp
  have hWj:W pl ops j=false:=by
   cases h:W pl ops j with
   | false=>rfl
   | true=>have:=(flags_spec hj h).1; rw [hpj] at this; exact absurd this (by simp)
  have hk1:p<=kap p N j:=by unfold kap; omega
  have hk2:kap p N j<=N:=by unfold kap; omega
  have hblk:blockedB (Region.before ops) (Vn pl ops) j (kap p N j)=false:=by
   rw [Bool.eq_false_iff]
   intro h
   unfold blockedB at h
   rw [List.any_eq_true] at h
   obtain ⟨i,hi,h2⟩:=h
   simp only [Bool.and_eq_true,decide_eq_true_eq] at h2
   obtain ⟨⟨h3,h4⟩,h5⟩:=h2
   have hiκ:=List.mem_range.1 hi
   have hip:i<p:=by unfold kap at hiκ; omega
   have his:i<ops.size:=by omega
   exact hout i his h3 h5 (hI.done i hip his (flags_spec his h4).1)
  refine main (kap p N j) (kap p N j) (T (kap p N j)).length (Nat.le_refl _) (hI.fam _ hk1 hk2) rfl (fun _ v hop=>S.pureAny ho hp (by omega) hblk hop) (fun _ _=>rfl) fun v v' w' hA hd=>?_
  obtain ⟨L',M',hI'⟩:=hI.side S ho hun hready hord hk1 hk2 (.inl ⟨rfl,hpj,rfl⟩) hd hA
  exact hK _ _ ⟨p,N,L',M',hI'⟩
 | false=>
  have hpj:=hpure hp
  have hpj2:p<=j:=by
   rcases Nat.lt_or_ge j p with h | h
   ·exact absurd (hI.done j h hj hpj) hun
   ·exact h
  have hWN:j≠N->N<j->W pl ops N=true->False:=by
   intro hne hlt hw
   have hN:N<ops.size:=by omega
   have h1:=hin N hlt ((flags_spec hN hw).2 j hj hpj (by omega))
   have:=hI.big N hN h1 (flags_spec hN hw).1
   omega
  have hjN:j<=N:=by
   rcases Nat.lt_or_ge N j with h | h
   ·rcases hI.stop with h1 | h1
    ·omega
    ·exact (hWN (by omega) h h1).elim
   ·exact h
  rcases Nat.lt_or_ge j N with hlt | hge
  ·have hWj:=hI.gap j hpj2 hlt
   have hk:kap p N j=j:=by unfold kap; omega
   refine main j (j+1) (T j).length (Nat.le_refl _) (hI.fam j hpj2 hjN) hk.symm (fun _ v hop=>by rw [hWj] at hop; exact hop) (fun _ h=>h) fun v v' w' hA hd=>?_
   obtain ⟨L',M',hI'⟩:=hI.side S ho hun hready hord hpj2 hjN (.inr ⟨rfl,rfl,hpj,hlt⟩) hd hA
   exact hK _ _ ⟨p,N,L',M',hI'⟩
  ·have hjeq:j=N:=by omega
   subst hjeq
   have hWj:W pl ops j=true:=by
    rcases hI.stop with h1 | h1
    ·omega
    ·exact h1
   have hk:kap p j j=j:=by unfold kap; omega
   have hcut:=cutL_self hI.post.srel.fresh
   refine main j (j+1) lo (S.above j (by omega)) (hI.fam j hpj2 (Nat.le_refl _)) hk.symm (fun _ v hop=>by rw [hWj] at hop; exact hop) (fun _ h=>h) fun v v' w' hA hd=>?_
   rw [hcut] at hd
   exact hK _ _ (hI.turn S ho hready hord (fun i hi hpi=>hin i hi (by
    have:=(flags_spec hj hWj).2 i (by omega) hpi (by omega)
    unfold Zv at this ⊢
    rw [Nat.max_comm,Nat.min_comm]
    exact this)) hd hA)
theorem any_ok (hF:Free F) (S:Setup P pl call lo ops A T) (hL0:SRel (T 0) L0 M0 w0) {Q:Exit->Act->World->Prop} (hQ:∀ act' w' L' M',Post lo (T 0) L0 M0 w0 (T ops.size) L' M' w'->ARel L' M' (A ops.size) act'->act'.defers=D0->Q .normal act' w') :
  ∀ (fuel:Nat) (listed:Array Bool) (act:Act) (w:World),listed.size=ops.size->listed.toList.count false<=fuel->
  (∃ p N L M,Inv pl lo ops A T L0 M0 w0 D0 p N L M (fun i=>listed.getD i false=true) act w)->wpAnyIn F fd P .any ops Q fuel listed act w:=by
 intro fuel
 induction fuel with
 | zero=>
  intro listed act w hn hcnt ⟨p,N,L,M,hI⟩
  have hall:∀ i,i<ops.size->listed.getD i false=true:=by
   intro i hi
   have hi':i<listed.size:=by omega
   rw [Array.getD_eq_getD_getElem?,Array.getElem?_eq_getElem hi',Option.getD_some]
   cases h:listed[i] with
   | true=>rfl
   | false=>
    exfalso
    have:false∈listed.toList:=by rw [<-h]; exact Array.getElem_mem_toList hi'
    have:=List.count_pos_iff.2 this
    omega
  refine ⟨?_,(fun h=>hQ act w L M h.1 h.2.1 h.2.2) (hI.finish S hL0 hall)⟩
  rw [List.eq_nil_iff_forall_not_mem]
  intro i hi
  obtain ⟨h1,o,ho,_⟩:=mem_ready.1 hi
  have hlt:=(Array.getElem?_eq_some_iff.1 ho).1
  have h2:=hall i hlt
  have hi':i<listed.size:=by omega
  rw [Array.getD_eq_getD_getElem?,Array.getElem?_eq_getElem hi',Option.getD_some] at h1 h2
  rw [h1] at h2
  exact absurd h2 (by simp)
 | succ fuel ih=>
  intro listed act w hn hcnt ⟨p,N,L,M,hI⟩
  refine ⟨fun h=>(fun h=>hQ act w L M h.1 h.2.1 h.2.2) (hI.finish S hL0 fun i hi=>ready_none S hn h (i+1) i (by omega) hi),fun j hj=>?_⟩
  obtain ⟨h1,o,ho,hready⟩:=mem_ready.1 hj
  have hlt:=(Array.getElem?_eq_some_iff.1 ho).1
  have hj':j<listed.size:=by omega
  have h1':listed[j]?=some false:=by
   rw [Array.getD_eq_getD_getElem?,Array.getElem?_eq_getElem hj',Option.getD_some] at h1
   rw [Array.getElem?_eq_getElem hj',h1]
  refine hI.exec hF S hL0 ho (by rw [Array.getD_eq_getD_getElem?,h1']; simp) hready fun act' w' ⟨p',N',L',M',hI'⟩=>?_
  refine ih _ act' w' (by simpa using hn) ?_ ⟨p',N',L',M',?_⟩
  ·have:=count_set listed.toList j (by simpa using h1')
   rw [Array.toList_setIfInBounds]
   omega
  ·have he:(fun i=>(listed.setIfInBounds j true).getD i false=true)=(fun i=>listed.getD i false=true\/i=j):=by
    funext i
    rw [Array.getD_eq_getD_getElem?,Array.getD_eq_getD_getElem?,Array.getElem?_setIfInBounds]
    by_cases hij:j=i
    ·subst hij; simp [hj']
    ·have:¬ i=j:=fun e=>hij e.symm
     simp [hij,this]
   rw [he]; exact hI'
theorem eqCs_eq:∀ {a b:List PV},eqCs a b=true->a=b
 | [],[],_=>rfl
 | x::a,[],h=>by cases x <;> simp [eqCs] at h
 | [],y::b,h=>by cases y <;> simp [eqCs] at h
 | x::a,y::b,h=>by
  unfold eqCs at h
  split at h
  ·rename_i e1 e2
   exact absurd e1 (by simp)
  ·rename_i k n l k' m l' e1 e2
   simp only [Bool.and_eq_true,beq_iff_eq] at h
   obtain ⟨⟨rfl,rfl⟩,h3⟩:=h
   injection e1 with e3 e4
   injection e2 with e5 e6
   subst e3; subst e4; subst e5; subst e6
   rw [eqCs_eq h3]
  ·exact absurd h (by simp)
theorem sameV_eq {x y:Option DV} (h:Jn x y=true):∃ v,x=some v/\y=some v:=by
 unfold Jn at h
 split at h
 ·simp only [Bool.and_eq_true,beq_iff_eq] at h
  obtain ⟨rfl,rfl⟩:=h
  exact ⟨_,rfl,rfl⟩
 ·exact ⟨_,rfl,rfl⟩
 ·simp only [beq_iff_eq] at h
  subst h
  exact ⟨_,rfl,rfl⟩
 ·simp only [Bool.and_eq_true,beq_iff_eq] at h
  obtain ⟨⟨⟨⟨rfl,rfl⟩,rfl⟩,rfl⟩,h5⟩:=h
  rw [eqCs_eq h5]
  exact ⟨_,rfl,rfl⟩
 ·exact absurd h (by simp)
theorem draw_ok (hF:Free F) {id:Nat} {a a':Qp} {σ σ':Qa} {act:Act} {Q:Exit->Act->World->Prop} (hm:P.follows .mixedOrders=true) (hc:UV P call) (hcl:VX call) (hlo:lo<=σ.length) (hs:SRel σ L M w) (ha:ARel L M a act)
  (hok:drawOk ops=true) (hst:(pl.rload.isEmpty||VR P pl ops.toList (ZI P pl call ops (VH lo) ops.toList (Vn pl ops) a σ))=true) (h:opsD P pl call ops (VH lo) ops.toList (Vn pl ops) a σ=some (a',σ')) (hQ:∀ act' w' L' M',Post lo σ L M w σ' L' M' w'->ARel L' M' a' act'->act'.defers=act.defers->Q .normal act' w'):(Code.region id ops true).wpIn F fd P Q act w:=by
 obtain ⟨A,T,h1,h2,h3,h4,htr,htl⟩:=trace_of h
 subst h1; subst h2
 rw [Array.length_toList] at h3 h4
 subst h3; subst h4
 rw [Array.length_toList] at htl
 have S:Setup P pl call lo ops A T:=by
  refine ⟨hc,hcl,hlo,hok,htr,fun j o t x ho hr hx κ hκ=>?_,fun j o t x ho hr hx κ hκ hb=>?_⟩
  case refine_2=>
   unfold FPol.isSload at hr
   rw [Bool.and_eq_true,Bool.not_eq_true'] at hr
   rw [hr.1,Bool.false_or] at hst
   unfold VR at hst
   rw [Bool.and_eq_true,Bool.or_eq_true] at hst
   have hj:j<ops.size:=(Array.getElem?_eq_some_iff.1 ho).1
   have hz:(ops.toList.zip (ZI P pl call ops (VH lo) ops.toList (Vn pl ops) (A 0) (T 0)))[j]?=some (o,A j,T j):=by
    rw [List.getElem?_zip_eq_some]
    exact ⟨by simpa using ho,htl j (by omega)⟩
   rcases hst.2 with he | hst2
   ·have h0:pl.sload=[]:=List.isEmpty_iff.1 he
    rw [h0] at hr
    cases hd:o.dst <;> rw [hd] at hr <;> simp at hr
   ·have h5:=List.all_eq_true.1 hst2 ((o,A j,T j),j) (List.mem_of_getElem? (i:=j) (by rw [List.getElem?_zipIdx,hz]; simp))
    simp only [stableAt2,FPol.isSload,hr.1,hr.2,Bool.not_false,Bool.true_and,Bool.not_true,Bool.false_or,hx,Array.toArray_toList] at h5
    have h6:=List.all_eq_true.1 h5 ((A κ,T κ),κ) (List.mem_of_getElem? (i:=κ) (by rw [List.getElem?_zipIdx,htl κ hκ]; simp))
    simp only [hb,Bool.false_or] at h6
    exact sameV_eq h6
  have hst:(pl.rload.isEmpty||(ops.toList.zip (ZI P pl call ops (VH lo) ops.toList (Vn pl ops) (A 0) (T 0))).all fun q=>stableAt P pl (ZI P pl call ops (VH lo) ops.toList (Vn pl ops) (A 0) (T 0)) q.1 q.2.1 q.2.2)=true:=by
   rw [Bool.or_eq_true] at hst ⊢
   rcases hst with h | h
   ·exact .inl h
   ·unfold VR at h
    rw [Bool.and_eq_true] at h
    exact .inr h.1
  have hne:pl.rload.isEmpty=false:=by
   cases he:pl.rload.isEmpty with
   | false=>rfl
   | true=>
    have:pl.rload=[]:=List.isEmpty_iff.1 he
    unfold FPol.isRload at hr
    rw [this] at hr
    cases hd:o.dst <;> rw [hd] at hr <;> simp at hr
  rw [hne,Bool.false_or] at hst
  have hj:j<ops.size:=(Array.getElem?_eq_some_iff.1 ho).1
  have hz:(ops.toList.zip (ZI P pl call ops (VH lo) ops.toList (Vn pl ops) (A 0) (T 0)))[j]?=some (o,A j,T j):=by
   rw [List.getElem?_zip_eq_some]
   exact ⟨by simpa using ho,htl j (by omega)⟩
  have h5:=List.all_eq_true.1 hst _ (List.mem_of_getElem? hz)
  simp only [stableAt,hr,Bool.not_true,Bool.false_or,hx] at h5
  have h6:=List.all_eq_true.1 h5 _ (List.mem_of_getElem? (htl κ hκ))
  simp only [] at h6
  unfold sameInt at h6
  split at h6
  ·rename_i k n k' m e1 e2
   simp only [Bool.and_eq_true,beq_iff_eq] at h6
   obtain ⟨rfl,rfl⟩:=h6
   exact ⟨_,_,e1,e2⟩
  ·exact absurd h6 (by simp)
 refine wpIn_region_any hm ?_
 have hd:=Post.drew lo hs
 obtain ⟨N,h5,h6,h7,h8⟩:=nextStop (W pl ops) ops.size ops.size 0 (by omega)
 have hfr:=hs.fresh
 have hno:∀ i,¬ (Array.replicate ops.size false).getD i false=true:=by
  intro i
  rw [Array.getD_eq_getD_getElem?,Array.getElem?_replicate]
  split <;> simp
 have hcut:∀ k,k<=ops.size->cutL L (T k).length=L:=fun k hk=>cutL_self fun r k' hr=>hfr r k' (by have:=S.lens (Nat.zero_le k) hk; omega)
 refine any_ok (D0:=act.defers) hF S hd.srel (fun act' w' L' M' hp ha' hdf=>hQ act' w' L' M' (hd.trans hp) ha' hdf) ops.size _ act _ (by simp) ?_ ⟨0,N,L,M,⟨Nat.zero_le _,h6,?_,?_,?_,fun i _ b=>h7 i (by omega) b,h8,?_,?_,?_,?_⟩⟩
 ·have:=List.count_le_length (a:=false) (l:=(Array.replicate ops.size false).toList)
  simp
 ·exact fun i o ho hl=>absurd hl (hno i)
 ·exact fun i _ hl=>absurd hl (hno i)
 ·exact fun i a=>absurd a (by omega)
 ·intro k _ hk
  rw [hcut k (by omega)]
  exact hd.srel.extend (S.pre (Nat.zero_le _) (by omega) fun x _ b=>h7 x (by omega) (by omega))
 ·intro i _ hi _ r k c d
  exact hfr r k (by have:=S.lens (Nat.zero_le i) (by omega:i<=ops.size); omega)
 ·exact Post.extend lo hd.srel (S.pre (Nat.zero_le _) (by omega) fun x _ b=>h7 x (by omega) (by omega))
 ·exact ⟨fun t i _ hl=>absurd hl (hno i),fun t _=>ha.get t,ha.size,rfl⟩
end
end Go.D
end
/- Marks of ranges over functions: deferred calls that do nothing. -/
section
set_option linter.unusedVariables false
set_option linter.unusedSimpArgs false
namespace Go.D
variable {P : Program} {σ σ' : Qa} {L L' : Locs} {M M' : Mem} {w w' : World}
def mark (D:Nat):Deferred:={ target:=.collected D,args:=#[] }
def Calm (B:Nat) (act:Act) (w:World):Prop:=B<=w.heap.size/\∃ Ds:List Nat,act.defers=Ds.map mark/\Ds.Nodup/\∀ D∈Ds,B<=D/\w.heap[D]?=some (.deferred (some []))
theorem Frm.other {C:Nat->Nat->Prop} {m:Nat->Prop} (h:Frm C m w w') {D:Nat} {ds:Option (List Deferred)} (hd:w.heap[D]?=some (.deferred ds)):w'.heap[D]?=some (.deferred ds):=by
 have:=h.obj D (Array.getElem?_eq_some_iff.1 hd).1
 rw [hd] at this
 cases hx:w'.heap[D]? with
 | none=>rw [hx] at this; simp [ObjKept] at this
 | some o=>rw [hx] at this; cases o <;> simp [ObjKept] at this; rw [this]
theorem Calm.keep {B:Nat} {act act':Act} {C:Nat->Nat->Prop} {m:Nat->Prop} (h:Calm B act w) (hf:Frm C m w w') (hd:act'.defers=act.defers):Calm B act' w':=by
 obtain ⟨hB,Ds,h1,h2,h3⟩:=h
 exact ⟨Nat.le_trans hB hf.size,Ds,hd.trans h1,h2,fun D hD=>⟨(h3 D hD).1,hf.other (h3 D hD).2⟩⟩
theorem Calm.putLoop {B l:Nat} {act:Act} {r:Loop} {o:Obj} (h:Calm B act w) (hl:w.heap[l]?=some (.loop r)):Calm B act (w.putObj l o):=by
 obtain ⟨hB,Ds,h1,h2,h3⟩:=h
 refine ⟨by simpa [World.putObj] using hB,Ds,h1,h2,fun D hD=>⟨(h3 D hD).1,?_⟩⟩
 have hne:D≠l:=by rintro rfl; have:=(h3 D hD).2; rw [hl] at this; exact absurd this (by simp)
 rw [World.putObj_heap_other hne]
 exact (h3 D hD).2
theorem cell_put {D:Nat} {ds:Option (List Deferred)} {o:Option (List Deferred)} (hd:w.heap[D]?=some (.deferred ds)) (a:Addr):(w.putObj D (.deferred o)).cell? a=w.cell? a:=by
 unfold World.cell?
 by_cases h:a.block=D
 ·subst h
  rw [World.putObj_heap_same (Array.getElem?_eq_some_iff.1 hd).1,hd]
 ·rw [World.putObj_heap_other h]
theorem frozen_put {D:Nat} {ds:Option (List Deferred)} {o:Option (List Deferred)} (hd:w.heap[D]?=some (.deferred ds)) (a:Addr):(w.putObj D (.deferred o)).frozen? a=w.frozen? a:=by
 unfold World.frozen?
 by_cases h:a.block=D
 ·subst h
  rw [World.putObj_heap_same (Array.getElem?_eq_some_iff.1 hd).1,hd]
 ·rw [World.putObj_heap_other h]
theorem SRel.congr (h:SRel σ L M w) (hc:∀ a,w'.cell? a=w.cell? a) (hf:∀ a,w'.frozen? a=w.frozen? a) (hm:∀ (b:Nat) (es:Array MapEntry) (k:Nat),w.heap[b]?=some (Obj.map es k)->w'.heap[b]?=some (Obj.map es k)):SRel σ L M w':=by
 refine ⟨h.fresh,h.ver,fun b o v hv=>(hc _).trans (h.mem b o v hv),fun r row l ha=>?_,fun r row l ha ho o hl=>?_,h.disj,h.maps,h.away⟩
 ·have hr:=h.row r row l ha
  cases row with
  | arr cs=>exact ⟨hr.1,hr.2.mono (Locs.le_refl _) (Mem.le_refl _) fun j v hj h1=>(hc _).trans h1⟩
  | mix cs=>exact ⟨hr.1,hr.2.mono (Locs.le_refl _) (Mem.le_refl _) fun j v hj h1=>(hc _).trans h1⟩
  | tok v=>exact hr
  | map es=>
   obtain ⟨vs,clock,h1,h2,h3⟩:=hr
   exact ⟨vs,clock,hm _ _ _ h1,h2,h3⟩
  | dead=>trivial
 ·obtain ⟨⟨v,h1⟩,h2⟩:=h.own r row l ha ho o hl
  exact ⟨⟨v,(hc _).trans h1⟩,(hf _).trans h2⟩
theorem Post.putDeferred {lo D:Nat} {ds o:Option (List Deferred)} (h:Post lo σ L M w σ' L' M' w') (hD:w.heap.size<=D) (hd:w'.heap[D]?=some (.deferred ds)):Post lo σ L M w σ' L' M' (w'.putObj D (.deferred o)):=by
 refine ⟨h.srel.congr (cell_put hd) (frozen_put hd) fun b es k hb=>?_,h.lle,h.mle,h.len,h.low,h.llow,⟨?_,h.frm.os,h.frm.tape,h.frm.output,fun b hb=>?_⟩,h.mnew,h.wr,h.wm⟩
 ·by_cases e:b=D
  ·subst e; rw [hd] at hb; exact absurd hb (by simp)
  ·rw [World.putObj_heap_other e]; exact hb
 ·have:=h.frm.size
  simpa [World.putObj] using this
 ·rw [World.putObj_heap_other (by omega)]
  exact h.frm.obj b hb
theorem leaves_marks {F:Fence} {n:Nat} {fn:Func} {tmps:Array Value} {R:Ending->World->Prop}:∀ (Ds:List Nat) (w:World),Ds.Nodup->(∀ D∈Ds,w.heap[D]?=some (.deferred (some [])))->
  (LeavesIn F n P fn tmps R [] .returning (Ds.foldl (fun w D=>w.putObj D (.deferred none)) w))->LeavesInM F n P fn tmps R (Ds.map mark) .returning w
 | [],w,_,_,h=>h
 | D::Ds,w,hn,hd,h=>by
  refine ⟨by simp,.inl ⟨D,w.putObj D (.deferred none),rfl,run_takeDeferred (hd D List.mem_cons_self),leaves_marks Ds _ (List.nodup_cons.1 hn).2 (fun D' hD'=>?_) h⟩⟩
  have hne:D'≠D:=by rintro rfl; exact (List.nodup_cons.1 hn).1 hD'
  show (w.putObj D _).heap[D']?=_
  rw [World.putObj_heap_other hne]
  exact hd D' (List.mem_cons_of_mem _ hD')
theorem Post.putMarks {lo:Nat}:∀ (Ds:List Nat) {w':World},Post lo σ L M w σ' L' M' w'->Ds.Nodup->(∀ D∈Ds,w.heap.size<=D/\w'.heap[D]?=some (.deferred (some [])))->Post lo σ L M w σ' L' M' (Ds.foldl (fun w D=>w.putObj D (.deferred none)) w')
 | [],w',h,_,_=>h
 | D::Ds,w',h,hn,hd=>by
  refine Post.putMarks Ds (h.putDeferred (hd D List.mem_cons_self).1 (hd D List.mem_cons_self).2) (List.nodup_cons.1 hn).2 fun D' hD'=>⟨(hd D' (List.mem_cons_of_mem _ hD')).1,?_⟩
  have hne:D'≠D:=by rintro rfl; exact (List.nodup_cons.1 hn).1 hD'
  show (w'.putObj D _).heap[D']?=_
  rw [World.putObj_heap_other hne]
  exact (hd D' (List.mem_cons_of_mem _ hD')).2
end Go.D
end
/- Ranges over functions that are known. -/
section
set_option linter.unusedVariables false
set_option linter.unusedSimpArgs false
namespace Go.D
variable {P : Program} {σ σ' : Qa} {L L' : Locs} {M M' : Mem} {w w' : World}
def SeqOk (P:Program) (f:FuncId) (kind:SeqKind):Prop:=
 (∃ fn, P.funcs[f]? = some fn ∧ (fn.name == "runtime.NumGoroutine") = false ∧ fn.body.isNone = false) ∧
 ∀ caps xss,seqList kind caps=some xss->∀ (L:Locs) (M:Mem) (vs:Array Value),Vals L M caps vs->∀ F n,Free F->F.round=none->
 ∀ (l:Nat) (J:Nat->World->Prop) (Jx:World->Prop) (W:World),(∀ i W,J i W->∀ b o v,M b o=some v->W.cell? ⟨b,o,none⟩=some v)->(∀ i W W',J i W->Frm (fun _ _=>False) (fun _=>False) W W'->J i W')->
  (∀ i W (h:i<xss.length) (args:Array Value),J i W->Vals L M xss[i] args->∀ m,YieldAt F m P l args W fun e W'=>(e=.returned (.bool true)/\J (i+1) W')\/(e=.returned (.bool false)/\Jx W'))->
  J 0 W->CallsIn F n P f (#[.func (.yield l) #[] #[]]++vs) W fun e W'=>(∃ v,e=.returned v)/\(J xss.length W'\/Jx W')
def Bare:Obj->Prop
 | .cells .. | .map ..=>False
 | _=>True
theorem Frm.bare {C:Nat->Nat->Prop} {m:Nat->Prop} (h:Frm C m w w') {D:Nat} {o:Obj} (ho:Bare o) (hd:w.heap[D]?=some o):w'.heap[D]?=some o:=by
 have:=h.obj D (Array.getElem?_eq_some_iff.1 hd).1
 rw [hd] at this
 cases hx:w'.heap[D]? with
 | none=>rw [hx] at this; cases o <;> first | exact ho.elim | simp [ObjKept] at this
 | some o'=>rw [hx] at this; cases o <;> first | exact ho.elim | (cases o' <;> simp [ObjKept] at this <;> first | rw [this] | simp_all)
theorem cell_putB {D:Nat} {o o':Obj} (ho:Bare o) (ho':Bare o') (hd:w.heap[D]?=some o) (a:Addr):(w.putObj D o').cell? a=w.cell? a:=by
 unfold World.cell?
 by_cases h:a.block=D
 ·subst h
  rw [World.putObj_heap_same (Array.getElem?_eq_some_iff.1 hd).1,hd]
  cases o <;> cases o' <;> first | exact ho.elim | exact ho'.elim | rfl
 ·rw [World.putObj_heap_other h]
theorem frozen_putB {D:Nat} {o o':Obj} (ho:Bare o) (ho':Bare o') (hd:w.heap[D]?=some o) (a:Addr):(w.putObj D o').frozen? a=w.frozen? a:=by
 unfold World.frozen?
 by_cases h:a.block=D
 ·subst h
  rw [World.putObj_heap_same (Array.getElem?_eq_some_iff.1 hd).1,hd]
  cases o <;> cases o' <;> first | exact ho.elim | exact ho'.elim | rfl
 ·rw [World.putObj_heap_other h]
theorem Post.putBare {lo D:Nat} {o o':Obj} (h:Post lo σ L M w σ' L' M' w') (hD:w.heap.size<=D) (hd:w'.heap[D]?=some o) (ho:Bare o) (ho':Bare o'):Post lo σ L M w σ' L' M' (w'.putObj D o'):=by
 refine ⟨h.srel.congr (cell_putB ho ho' hd) (frozen_putB ho ho' hd) fun b es k hb=>?_,h.lle,h.mle,h.len,h.low,h.llow,⟨?_,h.frm.os,h.frm.tape,h.frm.output,fun b hb=>?_⟩,h.mnew,h.wr,h.wm⟩
 ·by_cases e:b=D
  ·subst e; rw [hd] at hb; injection hb with hb; subst hb; exact ho.elim
  ·rw [World.putObj_heap_other e]; exact hb
 ·have:=h.frm.size
  simpa [World.putObj] using this
 ·rw [World.putObj_heap_other (by omega)]
  exact h.frm.obj b hb
theorem Post.allocBare (lo:Nat) (h:SRel σ L M w) (o:Obj):Post lo σ L M w σ L M (w.alloc o):=by
 have hfrm:=Frm.alloc (fun _ _=>False) (fun _=>False) w o
 exact ⟨h.grow hfrm (Mem.le_refl _) fun b o v hv=>.inl hv,Locs.le_refl _,Mem.le_refl _,Nat.le_refl _,fun _ _ _=>rfl,fun _ _ _ _=>rfl,hfrm.mono (fun _ _ h=>h.elim) (fun _ h=>h.elim),fun _ _ _ h=>.inl h,fun _ _ h=>.inl h,fun _ h=>.inl h⟩
theorem putAll_rel:∀ (ps:List Tmp) (xs:List DV) (vs:List Value) {a:Qp} {act:Act},ARel L M a act->vs.length=xs.length->(∀ j (h1:j<xs.length) (h2:j<vs.length),VRel L M xs[j] vs[j])->
  ARel L M (Uv ps xs a) { tmps:=(ps.zip vs).foldl (fun t (p,v)=>t.setIfInBounds p v) act.tmps,defers:=[] }
 | [],xs,vs,a,act,ha,hn,hv=>by cases xs <;> exact ⟨ha.size,ha.get⟩
 | p::ps,[],vs,a,act,ha,hn,hv=>by
  have:vs=[]:=List.length_eq_zero_iff.1 hn
  subst this
  exact ⟨ha.size,ha.get⟩
 | p::ps,x::xs,[],a,act,ha,hn,hv=>absurd hn (by simp)
 | p::ps,x::xs,v::vs,a,act,ha,hn,hv=>by
  have h1:=ha.put (some p) (hv 0 (by simp) (by simp))
  exact putAll_rel ps xs vs (act:={ tmps:=act.tmps.setIfInBounds p v,defers:=act.defers }) h1 (by simpa using hn) fun j a b=>hv (j+1) (by simpa using a) (by simpa using b)
theorem roundWith_some {cx cy:Qp->Qa->Option St} {ps:List Tmp} {a:Qp} {xs:List DV} {ex:Ex} (h:ZV cx cy ps a xs σ=some (ex,σ')) :
  ∃ a1 σ1 a2,cx (Uv ps xs a) σ=some (.normal,a1,σ1)/\cy a1 σ1=some (ex,a2,σ'):=by
 unfold ZV at h
 split at h
 ·rename_i a1 σ1 h1
  split at h
  ·rename_i ex2 a2 σ2 h2
   injection h with h; injection h with h3 h4; subst h3; subst h4
   exact ⟨a1,σ1,a2,h1,h2⟩
  ·exact absurd h (by simp)
 ·exact absurd h (by simp)
theorem roundsD_cons {run:List DV->Qa->Option (Ex×Qa)} {xs:List DV} {xss:List (List DV)} {ex:Ex} (h:ZR run (xs::xss) σ=some (ex,σ')) :
  (∃ σ1,run xs σ=some (.normal,σ1)/\ZR run xss σ1=some (ex,σ'))\/(ex≠.normal/\run xs σ=some (ex,σ')):=by
 simp only [ZR] at h
 split at h
 ·rename_i σ1 h1
  exact .inl ⟨σ1,h1,h⟩
 ·rename_i hne
  refine .inr ⟨?_,h⟩
  rintro rfl
  exact hne _ h
end Go.D
end
/- Regions, code, calls: D is sound. -/
section
set_option linter.unusedVariables false
set_option linter.unusedSimpArgs false
namespace Go.D
variable {P : Program} {t : TypeId} {σ σ' : Qa} {L : Locs} {M : Mem} {w : World}
theorem region_ok {F:Fence} {n:Nat} (hF:Free F) {pl:FPol} {call:Za} {lo id:Nat} {ops:Array Oper} {draw:Bool} {a a':Qp} {act:Act} {Q:Exit->Act->World->Prop} (hm:P.follows .mixedOrders=true) (hc:UV P call) (hcl:VX call) (hlo:lo<=σ.length) (hok:(!draw||drawOk ops)=true) (hs:SRel σ L M w) (ha:ARel L M a act)
  (h:region P pl call lo ops draw a σ=some (a',σ')) (hQ:∀ act' w' L' M',Post lo σ L M w σ' L' M' w'->ARel L' M' a' act'->act'.defers=act.defers->Q .normal act' w'):(Code.region id ops draw).wpIn F n P Q act w:=by
 unfold region at h
 cases draw with
 | true=>
  simp only [if_true] at h
  split at h
  ·rename_i hst
   exact draw_ok hF hm hc hcl hlo hs ha (by simpa using hok) hst h hQ
  ·exact absurd h (by simp)
 | false=>exact wpIn_region_list (ops_list_ok hF hc hlo hs ha h hQ)
def Ex.exit_:Ex->Exit
 | .normal=>.normal
 | .exit id=>.exit id
 | .ret=>.ret
theorem mask_getD:∀ (m:List Bool) (a:Qp) (t:Nat),(mask m a).getD t .undef=a.getD t .undef\/(mask m a).getD t .undef=.undef
 | _,[],t=>.inl (by simp [mask])
 | [],v::a,0=>.inr (by simp [mask])
 | [],v::a,t+1=>by simpa [mask] using mask_getD [] a t
 | b::m,v::a,0=>by cases b <;> simp [mask]
 | b::m,v::a,t+1=>by simpa [mask] using mask_getD m a t
theorem mask_length:∀ (m:List Bool) (a:Qp),(mask m a).length=a.length
 | _,[]=>by simp [mask]
 | [],v::a=>by simp [mask,mask_length [] a]
 | b::m,v::a=>by simp [mask,mask_length m a]
theorem cut_rel {an:Ann} {a:Qp} {act:Act} (h:ARel L M a act):ARel L M (an.cut a) act:=by
 unfold Ann.cut
 split
 ·rename_i m an
  refine ⟨by rw [mask_length]; exact h.size,fun t=>?_⟩
  rcases mask_getD m a t with e | e
  ·rw [e]; exact h.get t
  ·rw [e]; exact .undef _
 ·exact h
theorem cond_ok {c:Operand} {a:Qp} {act:Act} {b:Bool} (ha:ARel L M a act) (h:ev a c=.p (.bool b)):act.eval c=.bool b:=WB (h ▸ ha.ev c)
theorem code_ok {pl:FPol} {call:Za} {fuel lo:Nat} (hm:P.follows .mixedOrders=true) (hc:UV P call) (hcl:VX call) (hsq:∀ f kind,pl.seq f=some kind->SeqOk P f kind):∀ (c:Code) (F:Fence) (n B:Nat) (an:Ann) (a:Qp) (σ:Qa) (ex:Ex) (a':Qp) (σ':Qa) (L:Locs) (M:Mem) (w:World) (act:Act) (Q:Exit->Act->World->Prop),
  Free F->(F.round=none\/Wx c=false)->Wg c=true->lo<=σ.length->code P pl call fuel lo c an a σ=some (ex,a',σ')->SRel σ L M w->ARel L M a act->Calm B act w->(∀ act' w' L' M',Post lo σ L M w σ' L' M' w'->ARel L' M' a' act'->Calm B act' w'->Q ex.exit_ act' w')->c.wpIn F n P Q act w:=by
 intro c
 induction c with
 | skip=>
  intro F n B an a σ ex a' σ' L M w act Q hF hro hdr hlo h hs ha hcm hQ
  simp only [code,Option.some.injEq,Prod.mk.injEq] at h
  obtain ⟨rfl,rfl,rfl⟩:=h
  exact wpIn_skip (hQ act w L M (Post.refl lo hs) ha hcm)
 | region id ops draw=>
  intro F n B an a σ ex a' σ' L M w act Q hF hro hdr hlo h hs ha hcm hQ
  simp only [code] at h
  obtain ⟨⟨a1,σ1⟩,h1,h2⟩:=Option.map_eq_some_iff.1 h
  simp only [Prod.mk.injEq] at h2
  obtain ⟨rfl,rfl,rfl⟩:=h2
  exact region_ok hF hm hc hcl hlo (by simpa only [Wg] using hdr) hs ha h1 fun act' w' L' M' hp ha' hd'=>hQ act' w' L' M' hp ha' (hcm.keep hp.frm hd')
 | seq x y ihx ihy=>
  intro F n B an a σ ex a' σ' L M w act Q hF hro hdr hlo h hs ha hcm hQ
  simp only [code] at h
  simp only [Wg,Bool.and_eq_true] at hdr
  refine wpIn_seq ?_
  split at h
  ·rename_i a1 σ1 h1
   refine ihx F n B an.left a σ .normal a1 σ1 L M w act _ hF (hro.imp id fun h=>(Bool.or_eq_false_iff.1 h).1) hdr.1 hlo h1 hs ha hcm fun act1 w1 L1 M1 hp1 ha1 hc1=>?_
   exact ihy F n B an.right a1 σ1 ex a' σ' L1 M1 w1 act1 Q hF (hro.imp id fun h=>(Bool.or_eq_false_iff.1 h).2) hdr.2 (Nat.le_trans hlo hp1.len) h hp1.srel ha1 hc1 fun act2 w2 L2 M2 hp2 ha2 hc2=>hQ act2 w2 L2 M2 (hp1.trans hp2) ha2 hc2
  ·rename_i hne
   refine ihx F n B an.left a σ ex a' σ' L M w act _ hF (hro.imp id fun h=>(Bool.or_eq_false_iff.1 h).1) hdr.1 hlo h hs ha hcm fun act1 w1 L1 M1 hp1 ha1 hc1=>?_
   have:=hQ act1 w1 L1 M1 hp1 ha1 hc1
   cases ex with
   | normal=>exact absurd h (hne a' σ')
   | exit i=>exact this
   | ret=>exact this
 | cond c x y ihx ihy=>
  intro F n B an a σ ex a' σ' L M w act Q hF hro hdr hlo h hs ha hcm hQ
  simp only [code] at h
  simp only [Wg,Bool.and_eq_true] at hdr
  split at h
  ·rename_i hb
   exact wpIn_cond_true (cond_ok ha hb) (ihx F n B an.left a σ ex a' σ' L M w act Q hF (hro.imp id fun h=>(Bool.or_eq_false_iff.1 h).1) hdr.1 hlo h hs ha hcm hQ)
  ·rename_i hb
   exact wpIn_cond_false (cond_ok ha hb) (ihy F n B an.right a σ ex a' σ' L M w act Q hF (hro.imp id fun h=>(Bool.or_eq_false_iff.1 h).2) hdr.2 hlo h hs ha hcm hQ)
  ·exact absurd h (by simp)
 | block id x ih=>
  intro F n B an a σ ex a' σ' L M w act Q hF hro hdr hlo h hs ha hcm hQ
  simp only [code] at h
  simp only [Wg] at hdr
  refine wpIn_block ?_
  split at h
  ·rename_i a1 σ1 h1
   simp only [Option.some.injEq,Prod.mk.injEq] at h
   obtain ⟨rfl,rfl,rfl⟩:=h
   exact ih F n B an.left a σ .normal a1 _ L M w act _ hF hro hdr hlo h1 hs ha hcm fun act1 w1 L1 M1 hp1 ha1 hc1=>hQ act1 w1 L1 M1 hp1 (cut_rel ha1) hc1
  ·rename_i i a1 σ1 h1
   split at h
   ·rename_i hi
    simp only [Option.some.injEq,Prod.mk.injEq] at h
    obtain ⟨rfl,rfl,rfl⟩:=h
    refine ih F n B an.left a σ (.exit i) a1 _ L M w act _ hF hro hdr hlo h1 hs ha hcm fun act1 w1 L1 M1 hp1 ha1 hc1=>?_
    show (if i=id then Q .normal act1 w1 else Q (.exit i) act1 w1)
    rw [if_pos hi]
    exact hQ act1 w1 L1 M1 hp1 (cut_rel ha1) hc1
   ·rename_i hi
    simp only [Option.some.injEq,Prod.mk.injEq] at h
    obtain ⟨rfl,rfl,rfl⟩:=h
    refine ih F n B an.left a σ (.exit i) _ _ L M w act _ hF hro hdr hlo h1 hs ha hcm fun act1 w1 L1 M1 hp1 ha1 hc1=>?_
    show (if i=id then Q .normal act1 w1 else Q (.exit i) act1 w1)
    rw [if_neg hi]
    exact hQ act1 w1 L1 M1 hp1 ha1 hc1
  ·rename_i a1 σ1 h1
   simp only [Option.some.injEq,Prod.mk.injEq] at h
   obtain ⟨rfl,rfl,rfl⟩:=h
   exact ih F n B an.left a σ .ret _ _ L M w act _ hF hro hdr hlo h1 hs ha hcm hQ
  ·exact absurd h (by simp)
 | loop x ih=>
  intro F n B an a σ ex a' σ' L M w act Q hF hro hdr hlo h hs ha hcm hQ
  simp only [code] at h
  simp only [Wg] at hdr
  refine wpIn_loop_rounds fuel ?_
  have key:∀ (k:Nat) (a:Qp) (σ:Qa) (L:Locs) (M:Mem) (w:World) (act:Act),lo<=σ.length->iter (fun a σ=>code P pl call fuel lo x an.left (an.cut a) σ) k a σ=some (ex,a',σ')->SRel σ L M w->ARel L M a act->Calm B act w->
    (∀ act' w' L' M',Post lo σ L M w σ' L' M' w'->ARel L' M' a' act'->Calm B act' w'->Q ex.exit_ act' w')->Code.roundsIn F n P x Q k act w:=by
   intro k
   induction k with
   | zero=>intro a σ L M w act hlo h; exact absurd h (by simp [iter])
   | succ k ihk=>
    intro a σ L M w act hlo h hs ha hcm hQ
    simp only [iter] at h
    rw [roundsIn_succ]
    split at h
    ·rename_i a1 σ1 h1
     refine ih F n B an.left (an.cut a) σ .normal a1 σ1 L M w act _ hF hro hdr hlo h1 hs (cut_rel ha) hcm fun act1 w1 L1 M1 hp1 ha1 hc1=>?_
     exact ihk a1 σ1 L1 M1 w1 act1 (Nat.le_trans hlo hp1.len) h hp1.srel ha1 hc1 fun act2 w2 L2 M2 hp2 ha2 hc2=>hQ act2 w2 L2 M2 (hp1.trans hp2) ha2 hc2
    ·rename_i hne
     refine ih F n B an.left (an.cut a) σ ex a' σ' L M w act _ hF hro hdr hlo h hs (cut_rel ha) hcm fun act1 w1 L1 M1 hp1 ha1 hc1=>?_
     have:=hQ act1 w1 L1 M1 hp1 ha1 hc1
     cases ex with
     | normal=>exact absurd h (hne a' σ')
     | exit i=>exact this
     | ret=>exact this
  exact key fuel a σ L M w act hlo h hs ha hcm hQ
 | exit id=>
  intro F n B an a σ ex a' σ' L M w act Q hF hro hdr hlo h hs ha hcm hQ
  simp only [code,Option.some.injEq,Prod.mk.injEq] at h
  obtain ⟨rfl,rfl,rfl⟩:=h
  exact wpIn_exit (hQ act w L M (Post.refl lo hs) ha hcm)
 | ret=>
  intro F n B an a σ ex a' σ' L M w act Q hF hro hdr hlo h hs ha hcm hQ
  simp only [code,Option.some.injEq,Prod.mk.injEq] at h
  obtain ⟨rfl,rfl,rfl⟩:=h
  exact wpIn_ret (hQ act w L M (Post.refl lo hs) ha hcm)
 | rangeFunc g ps x y ihx ihy=>
  intro F n B an a σ ex a' σ' L M w act Q hF hro hdr hlo h hs ha hcm hQ
  have hro:F.round=none:=by
   rcases hro with h | h
   ·exact h
   ·simp [Wx] at h
  simp only [Wg,Bool.and_eq_true] at hdr
  simp only [code] at h
  split at h
  case h_2=>exact absurd h (by simp)
  rename_i f caps hg
  split at h
  case h_2=>exact absurd h (by simp)
  rename_i xss hxss
  split at h
  case isFalse=>exact absurd h (by simp)
  rename_i hcond
  simp only [Bool.and_eq_true,Bool.not_eq_true',List.all_eq_true,beq_iff_eq] at hcond
  obtain ⟨⟨hsize,hrx⟩,hry⟩:=hcond
  obtain ⟨⟨ex1,σ1⟩,hrounds,h2⟩:=Option.map_eq_some_iff.1 h
  simp only [Prod.mk.injEq] at h2
  obtain ⟨rfl,rfl,rfl⟩:=h2
  obtain ⟨kind,hkind,hlist⟩:=Option.bind_eq_some_iff.1 hxss
  obtain ⟨⟨fnf,hf1,hf2,hf3⟩,hseq⟩:=hsq f kind hkind
  have hgv:=ha.ev g
  rw [hg] at hgv
  obtain ⟨vs,hgc,hvs⟩:∃ vs,act.eval g=.func (.func f) #[] vs/\Vals L M caps vs:=by
   generalize act.eval g=gv at hgv
   cases hgv with | fn hn h=>exact ⟨_,rfl,hn,h⟩
  refine wpIn_rangeFunc fun fn hfn=>?_
  rw [hro]
  obtain ⟨rec,hrec⟩:∃ rec:LoopState->Option Code->Loop,rec=fun st pe=>{ state:=st,pending:=pe,fn,tmps:=act.tmps,params:=ps,assign:=x,body:=y,defers:=w.heap.size }:=⟨_,rfl⟩
  obtain ⟨W1,hW1⟩:∃ W1,(w.alloc (.deferred (some []))).alloc (.loop (rec .ready none))=W1:=⟨_,rfl⟩
  have hpW1:Post lo σ L M w σ L M W1:=by
   rw [<-hW1]
   have h1:=Post.allocBare lo hs (.deferred (some []))
   exact h1.trans (Post.allocBare lo h1.srel _)
  have hL1:W1.heap[w.heap.size+1]?=some (.loop (rec .ready none)):=by
   rw [<-hW1]; have:=World.alloc_heap_new (w.alloc (.deferred (some []))) (.loop (rec .ready none)); rwa [World.size_alloc] at this
  have hK1:W1.heap[w.heap.size]?=some (.deferred (some [])):=by
   rw [<-hW1]; exact (Frm.alloc (fun _ _=>False) (fun _=>False) _ _).other (World.alloc_heap_new w _)
  have hnone:∀ args w,(callFunc f args).run P w=.ok (.enter f args) w:=by
   intro args w
   have h2' : ¬ fnf.name = "runtime.NumGoroutine" := by simpa using hf2
   have h3':¬ fnf.body=none:=by intro e; rw [e] at hf3; simp at hf3
   simp [callFunc,hf1,h2',h3']
  refine ⟨w.heap.size+1,[mark w.heap.size],W1,{ target:=.fn (.func f) vs,args:=#[.func (.yield (w.heap.size+1)) #[] #[]] },W1,f,
   #[.func (.yield (w.heap.size+1)) #[] #[]]++vs,W1,?_,?_,fun f' _=>hF.fn f',?_,fun hd=>by rw [hF.depth] at hd; exact absurd hd (by simp),?_⟩
  ·rw [<-hW1,hrec]; exact run_enterLoop_outer _ _ _ _ _
  ·simp only [resolve,hgc]
   simp [go_sem]
  ·simp [invoke,go_sem,hnone]
  ·have hK:∀ (jump:Option Code) (st:LoopState),Bare (.loop (rec st jump)):=fun _ _=>trivial
   refine (hseq caps xss hlist L M vs hvs F (n-1) hF hro (w.heap.size+1)
    (fun i W=>∃ σi Li Mi,ZR (ZV (fun a σ=>code P pl call fuel lo x .nil a σ) (fun a σ=>code P pl call fuel lo y an.left a σ) ps.toList a) (xss.drop i) σi=some (ex1,σ1)/\Post lo σ L M w σi Li Mi W/\W.heap[w.heap.size+1]?=some (.loop (rec .ready none))/\W.heap[w.heap.size]?=some (.deferred (some [])))
    (fun W=>∃ c L' M',((c=.ret/\ex1=.ret)\/∃ id,c=.exit id/\ex1=.exit id)/\Post lo σ L M w σ1 L' M' W/\W.heap[w.heap.size+1]?=some (.loop (rec .done (some c)))/\W.heap[w.heap.size]?=some (.deferred (some [])))
    W1 ?_ ?_ ?_ ⟨σ,L,M,by simpa using hrounds,hpW1,hL1,hK1⟩).mono ?_
   ·rintro i W ⟨σi,Li,Mi,_,hp,_⟩ b o v hv
    exact hp.srel.mem b o v (hp.mle b o v hv)
   ·rintro i W W' ⟨σi,Li,Mi,hrun,hp,hl,hk⟩ hf
    have hp2:Post lo σi Li Mi W σi Li Mi W':=⟨hp.srel.grow hf (Mem.le_refl _) fun b o v hv=>.inl hv,Locs.le_refl _,Mem.le_refl _,Nat.le_refl _,fun _ _ _=>rfl,fun _ _ _ _=>rfl,hf.mono (fun _ _ h=>h.elim) (fun _ h=>h.elim),fun _ _ _ h=>.inl h,fun _ _ h=>.inl h,fun _ h=>.inl h⟩
    exact ⟨σi,Li,Mi,hrun,hp.trans hp2,hf.bare (hK _ _) hl,hf.other hk⟩
   ·rintro i W hi args ⟨σi,Li,Mi,hrun,hp,hl,hk⟩ hargs m
    have hargsz:args.size=ps.size:=by
     have:=hsize xss[i] (List.getElem_mem hi)
     rw [<-this]; exact hargs.1
    have hy:=run_yield (P:=P) (args:=args) hl (by rw [hrec]; exact hargsz)
    have hrec1:(rec .ready none).fn=fn/\(rec .ready none).params=ps/\(rec .ready none).tmps=act.tmps/\(rec .ready none).assign=x/\(rec .ready none).body=y:=by rw [hrec]; exact ⟨rfl,rfl,rfl,rfl,rfl⟩
    rw [hrec1.1,hrec1.2.1,hrec1.2.2.1,hrec1.2.2.2.1,hrec1.2.2.2.2] at hy
    refine ⟨fn,_,x,y,hy,roundIn_of_wpIn hfn ?_⟩
    rw [List.drop_eq_getElem_cons hi] at hrun
    have hput:ARel Li Mi (Uv ps.toList xss[i] a) { tmps:=(ps.zip args).foldl (fun t (p,v)=>t.setIfInBounds p v) act.tmps,defers:=[] }:=by
     have:=putAll_rel ps.toList xss[i] args.toList (ha.mono hp.lle hp.mle) (by simpa using hargs.1) (fun j h1 h2=>by
      have:=hargs.2 j h1 (by simpa using h2)
      simpa using this.mono hp.lle hp.mle)
     rw [<-Array.foldl_toList,Array.toList_zip]
     exact this
    have hlo1:lo<=σi.length:=Nat.le_trans hlo hp.len
    have hone:∃ ex3 σ3,ZV (fun a σ=>code P pl call fuel lo x .nil a σ) (fun a σ=>code P pl call fuel lo y an.left a σ) ps.toList a xss[i] σi=some (ex3,σ3)/\
      ((ex3=.normal/\ZR (ZV (fun a σ=>code P pl call fuel lo x .nil a σ) (fun a σ=>code P pl call fuel lo y an.left a σ) ps.toList a) (xss.drop (i+1)) σ3=some (ex1,σ1))\/(ex3≠.normal/\ex3=ex1/\σ3=σ1)):=by
     rcases roundsD_cons hrun with ⟨σ3,h1,h2⟩ | ⟨h1,h2⟩
     ·exact ⟨_,σ3,h1,.inl ⟨rfl,h2⟩⟩
     ·exact ⟨_,_,h2,.inr ⟨h1,rfl,rfl⟩⟩
    obtain ⟨ex3,σ3,hrw,hnext⟩:=hone
    obtain ⟨a2,σ2,a3,hx,hyc⟩:=roundWith_some hrw
    clear hrun hrw
    refine ihx (F.inRound _) m 0 .nil _ σi .normal a2 σ2 Li Mi W _ _ (hF.inRound _) (.inr hrx) hdr.1 hlo1 hx hp.srel hput ⟨Nat.zero_le _,[],rfl,List.nodup_nil,fun D h=>absurd h (by simp)⟩ fun act1 w1 La Ma hp1 ha1 hc1=>?_
    have hl1:=hp1.frm.bare (hK _ _) hl
    have hk1:=hp1.frm.other hk
    refine ⟨_,run_beginRound hl1 (by rw [hrec]),?_⟩
    have hpp:=(hp.trans hp1).putBare (o':=.loop { rec .ready none with state:=.busy }) (Nat.le_succ _) hl1 (hK _ _) trivial
    have hl2:(w1.putObj (w.heap.size+1) (.loop { rec .ready none with state:=.busy })).heap[w.heap.size+1]?=some (.loop { rec .ready none with state:=.busy }):=World.putObj_heap_same (Array.getElem?_eq_some_iff.1 hl1).1
    have hk2:(w1.putObj (w.heap.size+1) (.loop { rec .ready none with state:=.busy })).heap[w.heap.size]?=some (.deferred (some [])):=(World.putObj_heap_other (by omega)).trans hk1
    have hlo2:lo<=σ2.length:=Nat.le_trans hlo1 hp1.len
    refine ihy (F.inRound _) m 0 an.left a2 σ2 ex3 a3 σ3 La Ma _ _ _ (hF.inRound _) (.inr hry) hdr.2 hlo2 hyc hpp.srel ha1 (hc1.putLoop hl1) fun act3 w3 Lb Mb hp3 ha3 _=>?_
    have hl3:=hp3.frm.bare (o:=.loop { rec .ready none with state:=.busy }) trivial hl2
    have hk3:=hp3.frm.other hk2
    have hpt:=hpp.trans hp3
    have fin:∀ (jump:Option Code),(Instr.endRound (w.heap.size+1) jump).run P w3=.ok (.bool jump.isNone) (w3.putObj (w.heap.size+1) (.loop (rec (if jump.isNone then .ready else .done) jump)))/\
      Post lo σ L M w σ3 Lb Mb (w3.putObj (w.heap.size+1) (.loop (rec (if jump.isNone then .ready else .done) jump)))/\
      (w3.putObj (w.heap.size+1) (.loop (rec (if jump.isNone then .ready else .done) jump))).heap[w.heap.size+1]?=some (.loop (rec (if jump.isNone then .ready else .done) jump))/\
      (w3.putObj (w.heap.size+1) (.loop (rec (if jump.isNone then .ready else .done) jump))).heap[w.heap.size]?=some (.deferred (some [])):=by
     intro jump
     have h1:=run_endRound (P:=P) jump hl3
     rw [hrec] at h1 ⊢
     rw [hrec] at hl3
     exact ⟨h1,hpt.putBare (Nat.le_succ _) hl3 trivial trivial,World.putObj_heap_same (Array.getElem?_eq_some_iff.1 hl3).1,(World.putObj_heap_other (by omega)).trans hk3⟩
    cases ex3 with
    | normal=>
     obtain ⟨f1,f2,f3,f4⟩:=fin none
     rcases hnext with ⟨_,hn2⟩ | ⟨hn1,_⟩
     ·exact ⟨_,_,f1,.inl ⟨rfl,σ3,Lb,Mb,hn2,f2,f3,f4⟩⟩
     ·exact absurd rfl hn1
    | ret=>
     obtain ⟨_,rfl,rfl⟩:=hnext.resolve_left (fun h=>by simp at h)
     obtain ⟨f1,f2,f3,f4⟩:=fin (some .ret)
     exact ⟨_,_,f1,.inr ⟨rfl,.ret,Lb,Mb,.inl ⟨rfl,rfl⟩,f2,f3,f4⟩⟩
    | exit id=>
     obtain ⟨_,rfl,rfl⟩:=hnext.resolve_left (fun h=>by simp at h)
     obtain ⟨f1,f2,f3,f4⟩:=fin (some (.exit id))
     exact ⟨_,_,f1,.inr ⟨rfl,.exit id,Lb,Mb,.inr ⟨id,rfl,rfl⟩,f2,f3,f4⟩⟩
   ·have hcalm:∀ (W:World) (L':Locs) (M':Mem),Post lo σ L M w σ1 L' M' W->W.heap[w.heap.size]?=some (.deferred (some []))->Calm B { act with defers:=[mark w.heap.size]++act.defers } W:=by
     intro W L' M' hp hk
     obtain ⟨hB,Ds,h1,h2,h3⟩:=hcm
     refine ⟨Nat.le_trans hB hp.frm.size,w.heap.size::Ds,by rw [h1]; rfl,List.nodup_cons.2 ⟨fun hin=>?_,h2⟩,fun D hD=>?_⟩
     ·have:=(Array.getElem?_eq_some_iff.1 (h3 _ hin).2).1
      omega
     ·rcases List.mem_cons.1 hD with e | e
      ·subst e; exact ⟨hB,hk⟩
      ·exact ⟨(h3 D e).1,hp.frm.other (h3 D e).2⟩
    rintro e W2 ⟨⟨v,rfl⟩,h | h⟩
    ·obtain ⟨σi,Li,Mi,hrun,hp,hl,hk⟩:=h
     rw [List.drop_length] at hrun
     simp only [ZR,Option.some.injEq,Prod.mk.injEq] at hrun
     obtain ⟨rfl,rfl⟩:=hrun
     have hend:=run_endLoop (P:=P) hl (by rw [hrec]; simp)
     have hp2:=hp.putBare (o':=.loop { rec .ready none with state:=.exhausted }) (Nat.le_succ _) hl (hK _ _) trivial
     rw [hrec] at hend hp2
     refine ⟨none,_,hend,?_⟩
     exact hQ _ _ Li Mi hp2 ⟨(ha.mono hp.lle hp.mle).size,(ha.mono hp.lle hp.mle).get⟩ (hcalm _ Li Mi hp2 ((World.putObj_heap_other (by omega)).trans hk))
    ·obtain ⟨c,L',M',hc1,hp,hl,hk⟩:=h
     have hend:=run_endLoop (P:=P) hl (by rw [hrec]; simp)
     have hp2:=hp.putBare (o':=.loop { rec .done (some c) with state:=.exhausted }) (Nat.le_succ _) hl (hK _ _) trivial
     rw [hrec] at hend hp2
     refine ⟨some c,_,hend,?_⟩
     have hfin:=hQ { act with defers:=[mark w.heap.size]++act.defers } _ L' M' hp2 ⟨(ha.mono hp.lle hp.mle).size,(ha.mono hp.lle hp.mle).get⟩ (hcalm _ L' M' hp2 ((World.putObj_heap_other (by omega)).trans hk))
     rcases hc1 with ⟨rfl,rfl⟩ | ⟨id,rfl,rfl⟩
     ·exact wpIn_ret hfin
     ·exact wpIn_exit hfin
 | _=>
  intro F n B an a σ ex a' σ' L M w act Q hF hro hdr hlo h
  simp only [code] at h
  exact absurd h (by simp)
structure Reads (act:Act) (f:ResultVar->Sem Value):Prop where
 tmp:∀ t,f (.tmp t)=pure (act.tmps.getD t undef)
 cell:∀ x t,f (.cell x t)=(do loadVar t (<-asAddr (act.tmps.getD x undef)))
theorem result_ok {a:Qp} {act:Act} {f:ResultVar->Sem Value} (hf:Reads act f) (hs:SRel σ L M w) (ha:ARel L M a act) {rv:ResultVar} {v:DV} (h:resultOf P a σ rv=some v) :
  Same P (f rv) w (VRel L M v):=by
 cases rv with
 | tmp t=>
  simp only [resultOf] at h
  injection h with h; subst h
  rw [hf.tmp]
  exact ⟨_,rfl,ha.get _⟩
 | cell x t=>
  simp only [resultOf] at h
  rw [hf.cell]
  split at h
  ·rename_i r off hx
   have hv:=ha.get x
   rw [hx] at hv
   obtain ⟨v',hr,hv'⟩:=same_load hs h hv
   refine ⟨v',?_,hv'⟩
   generalize act.tmps.getD x undef=gv at *
   cases hv with | ptr hl=>
   simpa [Instr.loadAt,Instr.sureAddr,asAddr] using hr
  ·exact absurd h (by simp)
theorem results_list_ok {a:Qp} {act:Act} {f:ResultVar->Sem Value} (hf:Reads act f) (hs:SRel σ L M w) (ha:ARel L M a act):∀ (rs:List ResultVar) (vs:List DV),ZF P a σ rs=some vs->
  ∃ vs':List Value,(rs.mapM f).run P w=.ok vs' w/\vs'.length=vs.length/\∀ j (h1:j<vs.length) (h2:j<vs'.length),VRel L M vs[j] vs'[j]
 | [],vs,h=>by
  simp only [ZF,Option.some.injEq] at h
  subst h
  exact ⟨[],rfl,rfl,fun j h=>absurd h (by simp)⟩
 | r::rs,vs,h=>by
  simp only [ZF] at h
  split at h
  ·rename_i v vs0 h1 h2
   injection h with h; subst h
   obtain ⟨v',hr,hv⟩:=result_ok hf hs ha h1
   obtain ⟨vs',hrs,hn,hvs⟩:=results_list_ok hf hs ha rs vs0 h2
   refine ⟨v'::vs',?_,by simp [hn],fun j a b=>?_⟩
   ·simp only [List.mapM_cons,Sem.run_bind,hr,Result.andThen_ok,Sem.run_pure,hrs]
   ·cases j with
    | zero=>exact hv
    | succ j=>exact hvs j (by simpa using a) (by simpa using b)
  ·exact absurd h (by simp)
theorem results_ok {a:Qp} {act:Act} {fn:Func} {vs:List DV} (hs:SRel σ L M w) (ha:ARel L M a act) (h:ZF P a σ fn.results.toList=some vs):Same P (results fn act.tmps) w (VRel L M (wrap vs)):=by
 have aux:∀ {f:ResultVar->Sem Value},Reads act f->∃ vs':List Value,((fn.results.toList.mapM f).run P w)=.ok vs' w/\vs'.length=vs.length/\∀ j (h1:j<vs.length) (h2:j<vs'.length),VRel L M vs[j] vs'[j]:=fun hf=>results_list_ok hf hs ha _ _ h
 have hrun:∃ vs':List Value,(results fn act.tmps).run P w=.ok (if h:vs'.toArray.size=1 then vs'.toArray[0] else .tuple vs'.toArray) w/\vs'.length=vs.length/\∀ j (h1:j<vs.length) (h2:j<vs'.length),VRel L M vs[j] vs'[j]:=by
  have gen:∀ {f:ResultVar->Sem Value},Reads act f->∃ vs':List Value,(Sem.run P (do let vs <-fn.results.mapM f; pure (if h:vs.size=1 then vs[0] else .tuple vs)) w)=.ok (if h:vs'.toArray.size=1 then vs'.toArray[0] else .tuple vs'.toArray) w/\vs'.length=vs.length/\∀ j (h1:j<vs.length) (h2:j<vs'.length),VRel L M vs[j] vs'[j]:=by
   intro f hf
   obtain ⟨vs',hr,hn,hv⟩:=aux hf
   refine ⟨vs',?_,hn,hv⟩
   rw [Array.mapM_eq_mapM_toList]
   simp only [Sem.run_bind,Sem.run_map]
   rw [hr]
   rfl
  unfold results
  exact gen (by constructor <;> intros <;> rfl)
 obtain ⟨vs',hrun,hn,hv⟩:=hrun
 refine ⟨_,hrun,?_⟩
 match vs,vs',hn,hv with
 | [v],[v'],_,hv=>exact hv 0 (by simp) (by simp)
 | [],[],_,hv=>exact .tuple rfl (fun j h=>absurd h (by simp))
 | v1::v2::vs,v1'::v2'::vs',hn,hv=>
  have:¬ ((v1'::v2'::vs').toArray.size=1):=by simp
  rw [dif_neg this]
  exact .tuple (by simpa using hn) (fun j h1 h2=>by simpa using hv j h1 (by simpa using h2))
theorem callK_ok {pol:FuncId->FPol} (hm:P.follows .mixedOrders=true) (hsq:∀ g f kind,(pol g).seq f=some kind->SeqOk P f kind):∀ k,UV P (callK P pol k)
 | 0=>fun lo f args σ v σ' h=>absurd h (by simp [callK])
 | k+1=>by
  intro lo f args σ v σ' h hlo L M w vs hs hv
  simp only [callK] at h
  split at h
  ·rename_i fn hf
   split at h
   ·rename_i c hname hb
    split at h
    ·exact absurd h (by simp)
    rename_i hdr
    have hdr:Wg c=true:=by simpa using hdr
    have hb':fn.body.isNone=false:=by rw [hb]; rfl
    refine ⟨⟨fn,hf,hname,hb'⟩,?_⟩
    have hinit:ARel L M (args++List.replicate (fn.ntmps-args.length) .undef) { tmps:=vs++Array.replicate (fn.ntmps-vs.size) undef,defers:=[] }:=by
     refine ⟨by simp [hv.1],fun t=>?_⟩
     by_cases ht:t<args.length
     ·have e1:(args++List.replicate (fn.ntmps-args.length) DV.undef).getD t .undef=args[t]:=by
       rw [List.getD_eq_getElem?_getD,List.getElem?_append_left ht,List.getElem?_eq_getElem ht]; rfl
      have ht':t<vs.size:=by rw [hv.1]; exact ht
      have e2:(vs++Array.replicate (fn.ntmps-vs.size) undef).getD t undef=vs[t]:=by
       rw [Array.getD_eq_getD_getElem?,Array.getElem?_append_left ht',Array.getElem?_eq_getElem ht']; rfl
      rw [e1,e2]
      exact hv.2 t ht ht'
     ·have e1:(args++List.replicate (fn.ntmps-args.length) DV.undef).getD t .undef=.undef:=by
       rw [List.getD_eq_getElem?_getD,List.getElem?_append_right (by omega)]
       cases hx:(List.replicate (fn.ntmps-args.length) DV.undef)[t-args.length]? with
       | none=>rfl
       | some q=>
        have:=List.getElem?_eq_some_iff.1 hx
        obtain ⟨h1,h2⟩:=this
        simp at h2
        exact h2.symm
      rw [e1]
      exact .undef _
    intro F n hF
    refine (show CallsIn F.plain n P f vs w _ from callsIn_of_wp_marks hf hb (hF.fn f) ?_ rfl)
    have hF:Free F.plain:=⟨hF.fn,hF.depth⟩
    have main:∀ (ex:Ex) (a:Qp) (σ1:Qa),code P (pol f) (callK P pol k) k lo c (pol f).ann (args++List.replicate (fn.ntmps-args.length) .undef) σ=some (ex,a,σ1)->(ex.exit_=.normal\/ex.exit_=.ret)->
      (ZF P a σ1 fn.results.toList).map (fun vs=>(wrap vs,σ1))=some (v,σ')->
      c.wpIn F.plain n P (bodyPostM F.plain n P fn fun e w'=>∃ v',e=.returned v'/\∃ L' M',Post lo σ L M w σ' L' M' w'/\VRel L' M' v v') { tmps:=vs++Array.replicate (fn.ntmps-vs.size) undef,defers:=[] } w:=by
     intro ex a σ1 hcode hex hres
     obtain ⟨rs,hrs,he⟩:=Option.map_eq_some_iff.1 hres
     injection he with h1 h2
     subst h1; subst h2
     refine code_ok hm (callK_ok hm hsq k) (callK_low k) (hsq f) c F.plain n w.heap.size _ _ σ ex a σ1 L M w _ _ hF (.inl rfl) hdr hlo hcode hs hinit ⟨Nat.le_refl _,[],rfl,List.nodup_nil,fun D h=>absurd h (by simp)⟩ fun act' w' L' M' hp ha' hcm=>?_
     obtain ⟨_,Ds,hd1,hd2,hd3⟩:=hcm
     have hpp:=Post.putMarks Ds hp hd2 hd3
     obtain ⟨v',hr,hv'⟩:=results_ok hpp.srel ha' hrs
     have fin:LeavesInM F.plain n P fn act'.tmps (fun e w'=>∃ v',e=.returned v'/\∃ L' M',Post lo σ L M w σ1 L' M' w'/\VRel L' M' (wrap rs) v') act'.defers .returning w':=by
      rw [hd1]
      exact leaves_marks Ds w' hd2 (fun D hD=>(hd3 D hD).2) ⟨v',hr,v',rfl,L',M',hpp,hv'⟩
     rcases hex with e | e <;> rw [e] <;> exact fin
    split at h
    ·rename_i a σ1 hcode
     exact main _ _ _ hcode (.inl rfl) h
    ·rename_i a σ1 hcode
     exact main _ _ _ hcode (.inr rfl) h
    ·exact absurd h (by simp)
   ·exact absurd h (by simp)
  ·exact absurd h (by simp)
end Go.D
end
/- The closure of slices.Backward. -/
section
set_option linter.unusedVariables false
set_option linter.unusedSimpArgs false
namespace Go.D
variable {P : Program}
structure BackTypes (P:Program) (S E:TypeId) (agg:Bool) (sz:Nat):Prop where
 slice:P.underlying S=some (.slice E)
 flat:isAgg P S=some false
 one:∃ k,size? P S=some k
 agg:isAgg P E=some agg
 size:size? P E=some sz
theorem drop_one {cs:List PV} {off:Nat} {x:PV} (h:cs[off]?=some x):off+1<=cs.length/\(cs.drop off).take 1=[x]:=by
 obtain ⟨h1,h2⟩:=List.getElem?_eq_some_iff.1 h
 refine ⟨h1,?_⟩
 rw [List.drop_eq_getElem_cons h1,h2]
 rfl
theorem i64_ok {x:Int} (h0 : -9223372036854775808<=x) (h1:x<=9223372036854775807):IntKind.wrap .i64 x=x:=by
 rw [IntKind.wrap_i64]; omega
theorem srel_bare {M:Mem} {w:World} (h:∀ b o v,M b o=some v->w.cell? ⟨b,o,none⟩=some v):SRel [] (fun _ _=>none) M w:=by
 refine ⟨fun _ _ _=>rfl,fun _ _ _ _ _=>rfl,h,?_,?_,?_,?_,?_⟩
 ·rintro r row l ⟨h,_⟩; exact absurd h (by simp)
 ·rintro r row l ⟨h,_⟩; exact absurd h (by simp)
 ·rintro r row l r' row' l' ⟨h,_⟩; exact absurd h (by simp)
 ·rintro r row l r' row' l' ⟨h,_⟩; exact absurd h (by simp)
 ·rintro r row l ⟨h,_⟩; exact absurd h (by simp)
end Go.D
end
/- D without fuel: what D answers in the limit, in continuation style. -/
section
set_option linter.unusedVariables false
set_option linter.unusedSimpArgs false
namespace Go.D
open Classical in
noncomputable def lim {α:Type} (m:Nat->Option α):Option α:=
 if h:∃ r k0,∀ k,k0<=k->m k=some r then some h.choose else none
theorem VA {α:Type} {m:Nat->Option α} {r:α} (h:lim m=some r):∃ k0,∀ k,k0<=k->m k=some r:=by
 unfold lim at h
 split at h
 ·rename_i hx
  injection h with h; subst h
  exact hx.choose_spec
 ·exact absurd h (by simp)
theorem lim_eq {α:Type} {m:Nat->Option α} {r:α} (h:∃ k0,∀ k,k0<=k->m k=some r):lim m=some r:=by
 have hx:∃ r k0,∀ k,k0<=k->m k=some r:=⟨r,h⟩
 unfold lim
 rw [dif_pos hx]
 obtain ⟨k0,h0⟩:=h
 obtain ⟨k1,h1⟩:=hx.choose_spec
 have e0:=h0 (max k0 k1) (Nat.le_max_left _ _)
 have e1:=h1 (max k0 k1) (Nat.le_max_right _ _)
 rw [<-e0,<-e1]
theorem lim_const {α:Type} (o:Option α):lim (fun _=>o)=o:=by
 cases o with
 | some r=>exact lim_eq ⟨0,fun _ _=>rfl⟩
 | none=>
  cases h:lim (fun _:Nat=>(none:Option α)) with
  | none=>rfl
  | some r=>obtain ⟨k0,h0⟩:=VA h; exact absurd (h0 k0 (Nat.le_refl _)) (by simp)
theorem lim_succ {α:Type} (m:Nat->Option α):lim (fun k=>m (k+1))=lim m:=by
 cases h:lim m with
 | some r=>
  obtain ⟨k0,h0⟩:=VA h
  exact lim_eq ⟨k0,fun k hk=>h0 _ (by omega)⟩
 | none=>
  cases h1:lim (fun k=>m (k+1)) with
  | none=>rfl
  | some r=>
   obtain ⟨k0,h0⟩:=VA h1
   have:lim m=some r:=lim_eq ⟨k0+1,fun k hk=>by have:=h0 (k-1) (by omega); rwa [Nat.sub_add_cancel (by omega)] at this⟩
   rw [h] at this
   exact this.symm
noncomputable def callL (P:Program) (pol:FuncId->FPol):Za:=fun lo f args σ=>lim fun k=>callK P pol k lo f args σ
noncomputable def Ju (body:Qp->Qa->Option St) (a:Qp) (σ:Qa):Option St:=lim fun k=>iter body k a σ
theorem iterL_eq (body:Qp->Qa->Option St) (a:Qp) (σ:Qa):Ju body a σ=match body a σ with
  | some (.normal,a',σ')=>Ju body a' σ'
  | r=>r:=by
 unfold Ju
 rw [<-lim_succ]
 simp only [iter]
 cases body a σ with
 | none=>exact lim_const none
 | some r=>
  obtain ⟨ex,a',σ'⟩:=r
  cases ex with
  | normal=>rfl
  | exit i=>exact lim_const _
  | ret=>exact lim_const _
def Qt (c x y:DV):Option DV:=match c with
 | .p (.bool b)=>some (if b then x else y)
 | _=>none
def boxP (x:DV):Option DV:=(Vg x.cells).map fun ps=>.pptr ps 0
def boxV (v:DV):Option (List DV):=if v.cells.all DV.one then some v.cells else none
def QY:DV->Option DV
 | .ptr r off=>some (.ptr r off)
 | .pptr cs off=>some (.pptr cs off)
 | _=>none
def Qj (x:DV) (i:Nat):Option DV:=match x with
 | .tuple vs=>vs[i]?
 | _=>none
def Qv (call:Za) (f:FuncId) (args:List DV) (σ:Qa):Option DV:=
 if (args.map view).all Zt then
  match call 0 f (args.map view) [] with
  | some (v,σ')=>Ze 0 σ' v
  | none=>none
 else
  match call σ.length f (args.map view) σ with
  | some (v,σ')=>Ze σ.length σ' v
  | none=>none
def Qg (call:Za) (g:DV) (args:List DV) (σ:Qa):Option DV:=match g with
 | .fn f caps=>Qv call f (args++caps) σ
 | _=>none
def Qd (call:Za) (lo:Nat) (g:DV) (args:List DV) (σ:Qa):Option (DV×Qa):=match g with
 | .fn f caps=>call lo f (args++caps) σ
 | _=>none
theorem pureCall_eq (call:Za) (f:FuncId) (args:List DV) (σ:Qa):WM call f args σ=(Qv call f args σ).map (·,σ):=by
 unfold WM Qv
 split
 ·cases call 0 f (args.map view) [] <;> rfl
 ·cases call σ.length f (args.map view) σ <;> rfl
section
variable {β : Type}
def opK (P:Program) (pl:FPol) (call:Za) (lo:Nat) (a:Qp) (o:Oper) (σ:Qa) (K:DV->Qa->Option β):Option β:=
 match o.op with
 | .move x | .assign x=>K (ev a x) σ
 | .pick c x y=>(Qt (ev a c) (ev a x) (ev a y)).bind fun v=>K v σ
 | .alloc t=>(Qx P t).bind fun z=>K (.ptr σ.length 0) (σ++[.mix z])
 | .box _ x=>cond (pl.isPbox o.dst) ((boxP (ev a x)).bind fun v=>K v σ) ((boxV (ev a x)).bind fun cs=>K (.ptr σ.length 0) (σ++[.mix cs]))
 | .build t ps=>(build P t (ps.toList.map fun q=>(q.1,ev a q.2))).bind fun v=>K v σ
 | .buildSlice t n ps=>(buildSlice P (pl.asRow o.dst) t n (ps.toList.map fun q=>(q.1,ev a q.2)) σ).bind fun r=>K r.1 r.2
 | .load t x=>(Js P pl o.dst t (ev a x) σ).bind fun v=>K v σ
 | .store t x y=>(store P lo t (ev a x) (ev a y) σ).bind fun σ'=>K .undef σ'
 | .nilCheck x=>(QY (ev a x)).bind fun v=>K v σ
 | .binOp op t x y _=>cond (nilConst y) ((ifaceNil P op t (ev a x)).bind fun v=>K v σ) ((binOp P op t (ev a x) (ev a y)).bind fun v=>K v σ)
 | .unOp op _ x=>(unOp op (ev a x)).bind fun v=>K v σ
 | .convert s d x=>(convert P s d (ev a x)).bind fun v=>K v σ
 | .makeFunc (.func f) first caps=>if first.size=0 then K (.fn f (caps.toList.map (ev a))) σ else none
 | .makeMap _ none=>K (.map σ.length) (σ++[.map []])
 | .makeSlice t l c=>(makeSlice P (pl.isMixed o.dst) t (ev a l) (ev a c) σ).bind fun r=>K r.1 r.2
 | .slice t x l h m=>(Zy P t (ev a x) (l.map (ev a)) (h.map (ev a)) (m.map (ev a))).bind fun v=>K v σ
 | .fieldAddr t x i=>(fieldAddr P t (ev a x) i).bind fun v=>K v σ
 | .field t x i=>(field P t (ev a x) i).bind fun v=>K v σ
 | .indexAddr t x i=>(indexAddr P t (ev a x) (ev a i)).bind fun v=>K v σ
 | .index t x i=>(index P t (ev a x) (ev a i)).bind fun v=>K v σ
 | .lookup t x i ok=>(lookup P t (ev a x) (ev a i) ok σ).bind fun v=>K v σ
 | .mapUpdate t m k v=>(mapUpdate P lo t (ev a m) (ev a k) (ev a v) σ).bind fun σ'=>K .undef σ'
 | .extract x i=>(Qj (ev a x) i).bind fun v=>K v σ
 | .call c=>
  match c.callee with
  | .builtin .len=>if c.args.size=1/\c.argTypes.size=1 then (len P (c.argTypes.getD 0 0) (ev a (c.args.getD 0 (.const undef))) σ).bind fun v=>K v σ else none
  | .builtin .append=>if c.args.size=2/\c.argTypes.size=2 then (append P lo (pl.isMixed o.dst) (c.argTypes.getD 0 0) (c.argTypes.getD 1 0) (ev a (c.args.getD 0 (.const undef))) (ev a (c.args.getD 1 (.const undef))) σ).bind fun r=>K r.1 r.2 else none
  | .builtin .max=>(UA true (c.args.toList.map (ev a))).bind fun v=>K v σ
  | .builtin .min=>(UA false (c.args.toList.map (ev a))).bind fun v=>K v σ
  | .builtin .cap=>if c.args.size=1/\c.argTypes.size=1 then (capOp P (c.argTypes.getD 0 0) (ev a (c.args.getD 0 (.const undef)))).bind fun v=>K v σ else none
  | .builtin .clear=>if c.args.size=1/\c.argTypes.size=1 then (VJ P lo (c.argTypes.getD 0 0) (ev a (c.args.getD 0 (.const undef))) σ).bind fun σ'=>K .undef σ' else none
  | .builtin .copy=>if c.args.size=2/\c.argTypes.size=2 then (US P lo (c.argTypes.getD 0 0) (ev a (c.args.getD 0 (.const undef))) (ev a (c.args.getD 1 (.const undef))) σ).bind fun r=>K r.1 r.2 else none
  | .builtin _=>none
  | .value g=>if pl.isPlain o.dst then (Qd call lo (ev a g) (c.args.toList.map (ev a)) σ).bind fun r=>K r.1 r.2
   else (Qg call (ev a g) (c.args.toList.map (ev a)) σ).bind fun v=>K v σ
  | .invoke _ _=>none
 | _=>none
theorem WC {α γ:Type} (m:Option α) (f:α->γ) (K:γ->Option β):(m.map f).bind K=m.bind fun v=>K (f v):=by cases m <;> rfl
theorem opK_eq (P:Program) (pl:FPol) (call:Za) (lo:Nat) (a:Qp) (o:Oper) (σ:Qa) (K:DV->Qa->Option β):opK P pl call lo a o σ K=(op P pl call lo a o σ).bind fun r=>K r.1 r.2:=by
 cases ho:o.op <;> simp only [opK,op,ho,WC,Option.bind_some,Option.bind_none]
 case pick c x y=>
  unfold Qt
  generalize ev a c=g
  cases g with
  | p v=>cases v <;> rfl
  | _=>rfl
 case box=>
  unfold boxV boxP
  cases pl.isPbox o.dst
  ·simp only [cond_false,Bool.false_eq_true,if_false]; split <;> rfl
  ·simp only [cond_true,if_true]
   cases Vg (DV.cells _) <;> rfl
 case binOp op t x y z=>
  cases nilConst y
  ·simp only [cond_false,Bool.false_eq_true,if_false,WC]
  ·simp only [cond_true,if_true,WC]
 case nilCheck x=>
  unfold QY
  generalize ev a x=g
  cases g <;> rfl
 case extract x i=>
  unfold Qj
  generalize ev a x=g
  cases g <;> simp only [WC,Option.bind_none]
 case makeFunc f first caps=>cases f <;> first | rfl | (simp only []; split <;> rfl)
 case makeMap t n=>cases n <;> rfl
 case call c=>
  cases hc:c.callee <;> try rfl
  case builtin b=>
   cases b <;> try rfl
   all_goals first | exact WC _ _ _ | (by_cases h:c.args.size=1/\c.argTypes.size=1 <;> simp only [h,and_self,if_true,if_false,WC,Option.bind_none]; done) | (by_cases h:c.args.size=2/\c.argTypes.size=2 <;> simp only [h,and_self,if_true,if_false,WC,Option.bind_none]; done)
  case value g=>
   show (if pl.isPlain o.dst then _ else _)=Option.bind (match ev a g with
    | DV.fn f caps=>if pl.isPlain o.dst=true then call lo f (List.map (ev a) c.args.toList++caps) σ else WM call f (List.map (ev a) c.args.toList++caps) σ
    | _=>none) _
   unfold Qd Qg
   cases pl.isPlain o.dst <;> cases ev a g <;> first | rfl | (simp only [pureCall_eq,WC,Bool.false_eq_true,if_false,if_true]; done) | (simp only [pureCall_eq,WC,Bool.false_eq_true,if_false,if_true]; rfl)
def VC (all:Array Oper) (a:Qp) (j:Nat):DV:=match (all[j]?).bind (·.dst) with
 | some t=>a.getD t .undef
 | none=>.undef
def guardK (g:DV) (want:Bool) (m:Option (DV×Qa)) (σ:Qa) (K:DV->Qa->Option β):Option β:=match g with
 | .p (.bool b)=>if (b==want)=true then m.bind (fun r=>K r.1 r.2) else K .skip σ
 | .tuple []=>K .skip σ
 | _=>none
def opsK (P:Program) (pl:FPol) (call:Za) (all:Array Oper) (lows:Bool->Qa->Nat):List Oper->List Bool->Qp->Qa->(Qp->Qa->Option β)->Option β
 | [],_,a,σ,K=>K a σ
 | o::os,cs,a,σ,K=>match o.guard with
  | none=>opK P pl call (lows (cs.headD true) σ) a o σ fun v σ'=>opsK P pl call all lows os cs.tail (put a o.dst v) σ' K
  | some (j,want)=>guardK (VC all a j) want (opK P pl call (lows (cs.headD true) σ) a o σ fun v σ'=>some (v,σ')) σ fun v σ'=>opsK P pl call all lows os cs.tail (put a o.dst v) σ' K
theorem wantedD_guard {all:Array Oper} {a:Qp} {o:Oper} {j:Nat} {want:Bool} (h:o.guard=some (j,want)) :
  ZA all a o=match VC all a j with | .p (.bool b)=>some (b==want) | .tuple []=>some false | _=>none:=by
 unfold ZA VC
 rw [h]
 simp only []
 cases (all[j]?).bind (·.dst) <;> rfl
theorem Ue (P:Program) (pl:FPol) (call:Za) (all:Array Oper) (lows:Bool->Qa->Nat):∀ (os:List Oper) (cs:List Bool) (a:Qp) (σ:Qa) (K:Qp->Qa->Option β),
  opsK P pl call all lows os cs a σ K=(opsD P pl call all lows os cs a σ).bind fun r=>K r.1 r.2
 | [],cs,a,σ,K=>rfl
 | o::os,cs,a,σ,K=>by
  simp only [opsK,opsD]
  cases hg:o.guard with
  | none=>
   have hw:ZA all a o=some true:=by unfold ZA; rw [hg]
   rw [hw]
   simp only [opK_eq]
   cases op P pl call (lows (cs.headD true) σ) a o σ with
   | none=>rfl
   | some r=>exact Ue P pl call all lows os cs.tail _ _ K
  | some g=>
   obtain ⟨j,want⟩:=g
   rw [wantedD_guard hg]
   simp only [opK_eq]
   generalize VC all a j=g
   cases g with
   | p v=>
    cases v with
    | bool b=>
     simp only [guardK]
     by_cases hb:(b==want)=true
     ·rw [if_pos hb,hb]
      cases op P pl call (lows (cs.headD true) σ) a o σ with
      | none=>rfl
      | some r=>exact Ue P pl call all lows os cs.tail _ _ K
     ·rw [if_neg hb]
      have hb:(b==want)=false:=by simpa using hb
      rw [hb]
      exact Ue P pl call all lows os cs.tail _ _ K
    | _=>rfl
   | tuple vs=>
    cases vs with
    | nil=>exact Ue P pl call all lows os cs.tail _ _ K
    | cons v vs=>rfl
   | _=>rfl
def Je (P:Program) (pl:FPol) (call:Za) (all:Array Oper) (lows:Bool->Qa->Nat):List Oper->List Bool->Qp->Qa->List (Qp×Qa)->(Qp->Qa->List (Qp×Qa)->Option β)->Option β
 | [],_,a,σ,tr,K=>K a σ (tr++[(a,σ)])
 | o::os,cs,a,σ,tr,K=>match o.guard with
  | none=>opK P pl call (lows (cs.headD true) σ) a o σ fun v σ'=>Je P pl call all lows os cs.tail (put a o.dst v) σ' (tr++[(a,σ)]) K
  | some (j,want)=>guardK (VC all a j) want (opK P pl call (lows (cs.headD true) σ) a o σ fun v σ'=>some (v,σ')) σ fun v σ'=>Je P pl call all lows os cs.tail (put a o.dst v) σ' (tr++[(a,σ)]) K
theorem opsKT_eq (P:Program) (pl:FPol) (call:Za) (all:Array Oper) (lows:Bool->Qa->Nat):∀ (os:List Oper) (cs:List Bool) (a:Qp) (σ:Qa) (tr:List (Qp×Qa)) (K:Qp->Qa->List (Qp×Qa)->Option β),
  Je P pl call all lows os cs a σ tr K=(opsD P pl call all lows os cs a σ).bind fun r=>K r.1 r.2 (tr++ZI P pl call all lows os cs a σ)
 | [],cs,a,σ,tr,K=>rfl
 | o::os,cs,a,σ,tr,K=>by
  simp only [Je,opsD,ZI]
  cases hg:o.guard with
  | none=>
   have hw:ZA all a o=some true:=by unfold ZA; rw [hg]
   rw [hw]
   simp only [opK_eq]
   cases op P pl call (lows (cs.headD true) σ) a o σ with
   | none=>rfl
   | some r=>
    refine (opsKT_eq P pl call all lows os cs.tail _ _ (tr++[(a,σ)]) K).trans ?_
    simp only [List.append_assoc,List.singleton_append]
  | some g=>
   obtain ⟨j,want⟩:=g
   rw [wantedD_guard hg]
   simp only [opK_eq]
   generalize VC all a j=g
   cases g with
   | p v=>
    cases v with
    | bool b=>
     simp only [guardK]
     by_cases hb:(b==want)=true
     ·rw [if_pos hb,hb]
      cases op P pl call (lows (cs.headD true) σ) a o σ with
      | none=>rfl
      | some r=>
       refine (opsKT_eq P pl call all lows os cs.tail _ _ (tr++[(a,σ)]) K).trans ?_
       simp only [List.append_assoc,List.singleton_append]
     ·rw [if_neg hb]
      have hb:(b==want)=false:=by simpa using hb
      rw [hb]
      refine (opsKT_eq P pl call all lows os cs.tail _ _ (tr++[(a,σ)]) K).trans ?_
      simp only [List.append_assoc,List.singleton_append]
    | _=>rfl
   | tuple vs=>
    cases vs with
    | nil=>
     refine (opsKT_eq P pl call all lows os cs.tail _ _ (tr++[(a,σ)]) K).trans ?_
     simp only [List.append_assoc,List.singleton_append]
    | cons v vs=>rfl
   | _=>rfl
def Qh (c:DV) (x y:Option β):Option β:=match c with
 | .p (.bool true)=>x
 | .p (.bool false)=>y
 | _=>none
def Uc (run:List DV->Qa->(Ex->Qa->Option β)->Option β):List (List DV)->Qa->(Ex->Qa->Option β)->Option β
 | [],σ,K=>K .normal σ
 | xs::rest,σ,K=>run xs σ fun ex σ'=>match ex with
  | .normal=>Uc run rest σ' K
  | ex=>K ex σ'
end
noncomputable def loopWith {β:Type} (body:Qp->Qa->Option St) (a:Qp) (σ:Qa) (K:Ex->Qp->Qa->Option β):Option β:=
 (Ju body a σ).bind fun r=>K r.1 r.2.1 r.2.2
noncomputable def Zm (P:Program) (pl:FPol) (call:Za) (lo:Nat):Code->{β:Type}->Ann->Qp->Qa->(Ex->Qp->Qa->Option β)->Option β
 | .skip,_,_,a,σ,K=>K .normal a σ
 | .region _ ops draw,_,_,a,σ,K=>if draw then (if pl.rload.isEmpty then opsK P pl call ops (VH lo) ops.toList (Vn pl ops) a σ (K .normal) else Je P pl call ops (VH lo) ops.toList (Vn pl ops) a σ [] fun a' σ' tr=>bif VR P pl ops.toList tr then K .normal a' σ' else none) else opsK P pl call ops (fun _ _=>lo) ops.toList [] a σ (K .normal)
 | .seq x y,_,an,a,σ,K=>Zm P pl call lo x an.left a σ fun ex a' σ'=>match ex with
  | .normal=>Zm P pl call lo y an.right a' σ' K
  | ex=>K ex a' σ'
 | .cond c x y,_,an,a,σ,K=>Qh (ev a c) (Zm P pl call lo x an.left a σ K) (Zm P pl call lo y an.right a σ K)
 | .block id x,_,an,a,σ,K=>Zm P pl call lo x an.left a σ fun ex a' σ'=>match ex with
  | .normal=>K .normal (an.cut a') σ'
  | .exit i=>if i=id then K .normal (an.cut a') σ' else K (.exit i) a' σ'
  | .ret=>K .ret a' σ'
 | .loop x,_,an,a,σ,K=>loopWith (fun a σ=>Zm P pl call lo x an.left (an.cut a) σ fun ex a σ=>some (ex,a,σ)) (an.cut a) σ K
 | .exit id,_,_,a,σ,K=>K (.exit id) a σ
 | .ret,_,_,a,σ,K=>K .ret a σ
 | .rangeFunc g ps x y,_,an,a,σ,K=>match ev a g with
  | .fn f caps=>match (pl.seq f).bind fun kind=>seqList kind caps with
   | some xss=>
    if xss.all (·.length==ps.size)&&!Wx x&&!Wx y then
     Uc (fun xs σ K'=>Zm P pl call lo x .nil (Uv ps.toList xs a) σ fun ex a1 σ1=>match ex with
      | .normal=>Zm P pl call lo y an.left a1 σ1 fun ex _ σ2=>K' ex σ2
      | _=>none) xss σ fun ex σ'=>K ex a σ'
    else none
   | none=>none
  | _=>none
 | _,_,_,_,_,_=>none
end Go.D
end
/- D without fuel is sound: what the continuation style answers, the evaluator answers with enough fuel. -/
section
set_option linter.unusedVariables false
set_option linter.unusedSimpArgs false
namespace Go.D
variable {P : Program} {pol : FuncId -> FPol}
def Evt {α:Type} (m:Nat->Option α) (r:α):Prop:=∃ k0,∀ k,k0<=k->m k=some r
theorem pureV_evt {f:FuncId} {args:List DV} {σ:Qa} {v:DV} (h:Qv (callL P pol) f args σ=some v):Evt (fun k=>Qv (callK P pol k) f args σ) v:=by
 unfold Qv at h
 split at h
 ·rename_i hc
  split at h
  ·rename_i v1 σ1 h1
   obtain ⟨k0,h0⟩:=VA h1
   refine ⟨k0,fun k hk=>?_⟩
   show Qv _ _ _ _=_
   unfold Qv
   rw [if_pos hc,h0 k hk]
   exact h
  ·exact absurd h (by simp)
 ·rename_i hc
  split at h
  ·rename_i v1 σ1 h1
   obtain ⟨k0,h0⟩:=VA h1
   refine ⟨k0,fun k hk=>?_⟩
   show Qv _ _ _ _=_
   unfold Qv
   rw [if_neg hc,h0 k hk]
   exact h
  ·exact absurd h (by simp)
theorem op_evt {pl:FPol} {lo:Nat} {a:Qp} {o:Oper} {σ:Qa} {r:DV×Qa} (h:op P pl (callL P pol) lo a o σ=some r):Evt (fun k=>op P pl (callK P pol k) lo a o σ) r:=by
 unfold op at h
 cases ho:o.op with
 | call c=>
  simp only [ho] at h
  cases hc:c.callee with
  | value g=>
   simp only [hc] at h
   cases hg:ev a g with
   | fn f caps=>
    simp only [hg] at h
    by_cases hp:pl.isPlain o.dst=true
    ·rw [if_pos hp] at h
     obtain ⟨k0,h0⟩:=VA h
     refine ⟨k0,fun k hk=>?_⟩
     simp only [op,ho,hc,hg,if_pos hp]
     exact h0 k hk
    ·rw [if_neg hp,pureCall_eq] at h
     obtain ⟨v,hv,rfl⟩:=Option.map_eq_some_iff.1 h
     obtain ⟨k0,h0⟩:=pureV_evt hv
     refine ⟨k0,fun k hk=>?_⟩
     simp only [op,ho,hc,hg,if_neg hp,pureCall_eq]
     have:=h0 k hk
     simp only [this,Option.map_some]
   | _=>simp [hg] at h
  | builtin b=>cases b <;> exact ⟨0,fun k _=>by unfold op; simp only [ho,hc]; simpa only [hc] using h⟩
  | invoke r m=>exact ⟨0,fun k _=>by unfold op; simp only [ho,hc]; simpa only [hc] using h⟩
 | makeFunc f first caps=>cases f <;> exact ⟨0,fun k _=>by unfold op; simpa only [ho] using h⟩
 | makeMap t n=>cases n <;> exact ⟨0,fun k _=>by unfold op; simpa only [ho] using h⟩
 | _=>exact ⟨0,fun k _=>by unfold op; simpa only [ho] using h⟩
theorem opsD_evt {pl:FPol} {all:Array Oper} {lows:Bool->Qa->Nat}:∀ {os:List Oper} {cs:List Bool} {a:Qp} {σ:Qa} {r:Qp×Qa},opsD P pl (callL P pol) all lows os cs a σ=some r->Evt (fun k=>opsD P pl (callK P pol k) all lows os cs a σ) r
 | [],cs,a,σ,r,h=>⟨0,fun _ _=>h⟩
 | o::os,cs,a,σ,r,h=>by
  simp only [opsD] at h
  split at h
  ·rename_i hw
   split at h
   ·rename_i v σ1 h1
    obtain ⟨k0,h0⟩:=op_evt h1
    obtain ⟨k1,h2⟩:=opsD_evt h
    refine ⟨max k0 k1,fun k hk=>?_⟩
    simp only [opsD,hw,h0 k (by omega),h2 k (by omega)]
   ·exact absurd h (by simp)
  ·rename_i hw
   obtain ⟨k1,h2⟩:=opsD_evt h
   exact ⟨k1,fun k hk=>by simp only [opsD,hw,h2 k hk]⟩
  ·exact absurd h (by simp)
theorem traceD_evt {pl:FPol} {all:Array Oper} {lows:Bool->Qa->Nat}:∀ {os:List Oper} {cs:List Bool} {a:Qp} {σ:Qa} {r:Qp×Qa},opsD P pl (callL P pol) all lows os cs a σ=some r->∃ k0,∀ k,k0<=k->ZI P pl (callK P pol k) all lows os cs a σ=ZI P pl (callL P pol) all lows os cs a σ
 | [],cs,a,σ,r,h=>⟨0,fun _ _=>rfl⟩
 | o::os,cs,a,σ,r,h=>by
  simp only [opsD] at h
  split at h
  ·rename_i hw
   split at h
   ·rename_i v σ1 h1
    obtain ⟨k0,h0⟩:=op_evt h1
    obtain ⟨k1,h2⟩:=traceD_evt h
    refine ⟨max k0 k1,fun k hk=>?_⟩
    simp only [ZI,hw,h0 k (by omega),h1,h2 k (by omega)]
   ·exact absurd h (by simp)
  ·rename_i hw
   obtain ⟨k1,h2⟩:=traceD_evt h
   exact ⟨k1,fun k hk=>by simp only [ZI,hw,h2 k hk]⟩
  ·exact absurd h (by simp)
theorem bind_some' {α γ:Type} {m:Option α} {K:α->Option γ} {r:γ} (h:m.bind K=some r):∃ x,m=some x/\K x=some r:=Option.bind_eq_some_iff.1 h
theorem region_evt {β:Type} {pl:FPol} {lo id:Nat} {ops:Array Oper} {draw:Bool} {an:Ann} {a:Qp} {σ:Qa} {K:Ex->Qp->Qa->Option β} {r:β} (h:Zm P pl (callL P pol) lo (.region id ops draw) an a σ K=some r) :
  ∃ a' σ',K .normal a' σ'=some r/\Evt (fun k=>region P pl (callK P pol k) lo ops draw a σ) (a',σ'):=by
 unfold Zm at h
 cases draw with
 | true=>
  simp only [if_true,Ue] at h
  split at h
  ·rename_i he
   obtain ⟨⟨a',σ'⟩,h1,h2⟩:=bind_some' h
   obtain ⟨k0,h0⟩:=opsD_evt h1
   exact ⟨a',σ',h2,k0,fun k hk=>by simp only [region,if_true,he,Bool.true_or]; exact h0 k hk⟩
  ·rw [opsKT_eq] at h
   obtain ⟨⟨a',σ'⟩,h1,h2⟩:=bind_some' h
   simp only [List.nil_append] at h2
   obtain ⟨k0,h0⟩:=opsD_evt h1
   obtain ⟨k1,h3⟩:=traceD_evt h1
   cases hs:VR P pl ops.toList (ZI P pl (callL P pol) ops (VH lo) ops.toList (Vn pl ops) a σ) with
   | false=>rw [hs] at h2; exact absurd h2 (by simp)
   | true=>
    rw [hs] at h2
    refine ⟨a',σ',h2,max k0 k1,fun k hk=>?_⟩
    simp only [region,if_true,h3 k (by omega),hs,Bool.or_true]
    exact h0 k (by omega)
 | false=>
  simp only [Bool.false_eq_true,if_false,Ue] at h
  obtain ⟨⟨a',σ'⟩,h1,h2⟩:=bind_some' h
  obtain ⟨k0,h0⟩:=opsD_evt h1
  exact ⟨a',σ',h2,k0,fun k hk=>by simp only [region,Bool.false_eq_true,if_false]; exact h0 k hk⟩
theorem mask_mask:∀ (m:List Bool) (a:Qp),mask m (mask m a)=mask m a
 | _,[]=>by simp [mask]
 | [],v::a=>by simp [mask,mask_mask [] a]
 | b::m,v::a=>by cases b <;> simp [mask,mask_mask m a]
theorem cut_cut (an:Ann) (a:Qp):an.cut (an.cut a)=an.cut a:=by
 cases an with
 | keep m an=>exact mask_mask m a
 | _=>rfl
theorem codeK_evt {pl:FPol} {lo:Nat}:∀ (c:Code) {β:Type} {an:Ann} {a:Qp} {σ:Qa} {K:Ex->Qp->Qa->Option β} {r:β},Zm P pl (callL P pol) lo c an a σ K=some r->
  ∃ ex a' σ',K ex a' σ'=some r/\Evt (fun k=>code P pl (callK P pol k) k lo c an a σ) (ex,a',σ'):=by
 intro c
 induction c with
 | skip=>
  intro β an a σ K r h
  exact ⟨_,a,σ,h,0,fun _ _=>rfl⟩
 | region id ops draw=>
  intro β an a σ K r h
  obtain ⟨a',σ',h1,k0,h2⟩:=region_evt h
  exact ⟨.normal,a',σ',h1,k0,fun k hk=>by simp only [code,h2 k hk,Option.map_some]⟩
 | seq x y ihx ihy=>
  intro β an a σ K r h
  unfold Zm at h
  obtain ⟨ex,a1,σ1,h1,k0,h0⟩:=ihx h
  cases ex with
  | normal=>
   obtain ⟨ex2,a2,σ2,h2,k1,h3⟩:=ihy h1
   exact ⟨ex2,a2,σ2,h2,max k0 k1,fun k hk=>by simp only [code,h0 k (by omega),h3 k (by omega)]⟩
  | exit i=>exact ⟨_,a1,σ1,h1,k0,fun k hk=>by simp only [code,h0 k hk]⟩
  | ret=>exact ⟨_,a1,σ1,h1,k0,fun k hk=>by simp only [code,h0 k hk]⟩
 | cond c x y ihx ihy=>
  intro β an a σ K r h
  unfold Zm Qh at h
  split at h
  ·rename_i hc
   obtain ⟨ex,a1,σ1,h1,k0,h0⟩:=ihx h
   exact ⟨ex,a1,σ1,h1,k0,fun k hk=>by simp only [code,hc]; exact h0 k hk⟩
  ·rename_i hc
   obtain ⟨ex,a1,σ1,h1,k0,h0⟩:=ihy h
   exact ⟨ex,a1,σ1,h1,k0,fun k hk=>by simp only [code,hc]; exact h0 k hk⟩
  ·exact absurd h (by simp)
 | block id x ih=>
  intro β an a σ K r h
  unfold Zm at h
  obtain ⟨ex,a1,σ1,h1,k0,h0⟩:=ih h
  cases ex with
  | normal=>exact ⟨_,_,σ1,h1,k0,fun k hk=>by simp only [code,h0 k hk]⟩
  | exit i=>
   simp only [] at h1
   by_cases hi:i=id
   ·rw [if_pos hi] at h1
    exact ⟨_,_,σ1,h1,k0,fun k hk=>by simp only [code,h0 k hk,if_pos hi]⟩
   ·rw [if_neg hi] at h1
    exact ⟨_,_,σ1,h1,k0,fun k hk=>by simp only [code,h0 k hk,if_neg hi]⟩
  | ret=>exact ⟨_,a1,σ1,h1,k0,fun k hk=>by simp only [code,h0 k hk]⟩
 | loop x ih=>
  intro β an a σ K r h
  unfold Zm loopWith at h
  obtain ⟨⟨ex,a',σ'⟩,h1,h2⟩:=bind_some' h
  obtain ⟨j,hj⟩:=VA h1
  have hj:=hj j (Nat.le_refl _)
  have key:∀ (j:Nat) (a:Qp) (σ:Qa),iter (fun a σ=>Zm P pl (callL P pol) lo x an.left (an.cut a) σ fun ex a σ=>some (ex,a,σ)) j a σ=some (ex,a',σ')->
    ∃ k0,∀ k n,k0<=k->k0<=n->iter (fun a σ=>code P pl (callK P pol k) k lo x an.left (an.cut a) σ) n a σ=some (ex,a',σ'):=by
   intro j
   induction j with
   | zero=>intro a σ h; exact absurd h (by simp [iter])
   | succ j ihj=>
    intro a σ h
    simp only [iter] at h
    split at h
    ·rename_i a1 σ1 hb
     obtain ⟨ex2,a2,σ2,e,k0,h0⟩:=ih hb
     injection e with e; injection e with e1 e2; injection e2 with e2 e3; subst e1; subst e2; subst e3
     obtain ⟨k1,h3⟩:=ihj a2 σ2 h
     refine ⟨max k0 k1+1,fun k n hk hn=>?_⟩
     match n,hn with
     | n+1,hn=>simp only [iter,h0 k (by omega),h3 k n (by omega) (by omega)]
    ·rename_i hne
     obtain ⟨ex2,a2,σ2,e,k0,h0⟩:=ih h
     injection e with e; injection e with e1 e2; injection e2 with e2 e3; subst e1; subst e2; subst e3
     refine ⟨k0+1,fun k n hk hn=>?_⟩
     match n,hn with
     | n+1,hn=>
      simp only [iter,h0 k (by omega)]
      cases ex2 with
      | normal=>exact absurd h (hne a2 σ2)
      | exit i=>rfl
      | ret=>rfl
  obtain ⟨k0,h0⟩:=key j _ σ hj
  refine ⟨ex,a',σ',h2,k0+1,fun k hk=>?_⟩
  simp only [code]
  have:=h0 k k (by omega) (by omega)
  match k,hk with
  | k+1,hk=>
   simp only [iter,cut_cut] at this ⊢
   exact this
 | exit id=>
  intro β an a σ K r h
  exact ⟨_,a,σ,h,0,fun _ _=>rfl⟩
 | ret=>
  intro β an a σ K r h
  exact ⟨_,a,σ,h,0,fun _ _=>rfl⟩
 | rangeFunc g ps x y ihx ihy=>
  intro β an a σ K r h
  unfold Zm at h
  split at h
  ·rename_i f caps hg
   split at h
   ·rename_i xss hx
    split at h
    ·rename_i hc
     have key:∀ (xss:List (List DV)) (σ:Qa),Uc (fun xs σ K'=>Zm P pl (callL P pol) lo x .nil (Uv ps.toList xs a) σ fun ex a1 σ1=>match ex with
       | .normal=>Zm P pl (callL P pol) lo y an.left a1 σ1 fun ex _ σ2=>K' ex σ2
       | _=>none) xss σ (fun ex σ'=>K ex a σ')=some r->
       ∃ ex σ',K ex a σ'=some r/\Evt (fun k=>ZR (ZV (fun a σ=>code P pl (callK P pol k) k lo x .nil a σ) (fun a σ=>code P pl (callK P pol k) k lo y an.left a σ) ps.toList a) xss σ) (ex,σ'):=by
      intro xss
      induction xss with
      | nil=>intro σ h; exact ⟨.normal,σ,h,0,fun _ _=>rfl⟩
      | cons xs xss ihr=>
       intro σ h
       simp only [Uc] at h
       obtain ⟨ex1,a1,σ1,h1,k0,h0⟩:=ihx h
       cases ex1 with
       | normal=>
        obtain ⟨ex2,a2,σ2,h2,k1,h3⟩:=ihy h1
        have hrw:∀ k,max k0 k1<=k->ZV (fun a σ=>code P pl (callK P pol k) k lo x .nil a σ) (fun a σ=>code P pl (callK P pol k) k lo y an.left a σ) ps.toList a xs σ=some (ex2,σ2):=fun k hk=>by
         simp only [ZV,h0 k (by omega),h3 k (by omega)]
        cases ex2 with
        | normal=>
         obtain ⟨ex3,σ3,h4,k2,h5⟩:=ihr σ2 h2
         refine ⟨ex3,σ3,h4,max (max k0 k1) k2,fun k hk=>?_⟩
         simp only [ZR,hrw k (by omega),h5 k (by omega)]
        | exit i=>exact ⟨_,σ2,h2,max k0 k1,fun k hk=>by simp only [ZR,hrw k (by omega)]⟩
        | ret=>exact ⟨_,σ2,h2,max k0 k1,fun k hk=>by simp only [ZR,hrw k (by omega)]⟩
       | exit i=>exact absurd h1 (by simp)
       | ret=>exact absurd h1 (by simp)
     obtain ⟨ex,σ',h1,k0,h0⟩:=key xss σ h
     refine ⟨ex,a,σ',h1,k0,fun k hk=>?_⟩
     simp only [code,hg,hx,if_pos hc]
     have:=h0 k hk
     simp only at this
     rw [this]
     rfl
    ·exact absurd h (by simp)
   ·exact absurd h (by simp)
  ·exact absurd h (by simp)
 | _=>
  intro β an a σ K r h
  unfold Zm at h
  exact absurd h (by simp)
def finK (P:Program) (rs:List ResultVar):Ex->Qp->Qa->Option (DV×Qa)
 | .normal,a,σ | .ret,a,σ=>(ZF P a σ rs).bind fun vs=>some (wrap vs,σ)
 | _,_,_=>none
theorem callL_of {f lo : Nat} {fn : Func} {c : Code} {args : List DV} {σ : Qa} {r : DV × Qa} (hf : P.funcs[f]? = some fn) (hname : (fn.name == "runtime.NumGoroutine") = false) (hb : fn.body = some c) (hd : Wg c = true)
  (h:Zm P (pol f) (callL P pol) lo c (pol f).ann (args++List.replicate (fn.ntmps-args.length) .undef) σ (finK P fn.results.toList)=some r):callL P pol lo f args σ=some r:=by
 obtain ⟨ex,a',σ',h1,k0,h0⟩:=codeK_evt c h
 refine lim_eq ⟨k0+1,fun k hk=>?_⟩
 match k,hk with
 | k+1,hk=>
  have h0:=h0 k (by omega)
  simp only at h0
  simp only [callK,hf,hname,hb,hd,Bool.true_eq_false,if_false,h0]
  cases ex with
  | normal=>obtain ⟨vs,hv,he⟩:=bind_some' h1; simp only [hv,Option.map_some]; exact he
  | ret=>obtain ⟨vs,hv,he⟩:=bind_some' h1; simp only [hv,Option.map_some]; exact he
  | exit i=>exact absurd h1 (by simp [finK])
theorem codeK_bind {pl:FPol} {call:Za} {lo:Nat}:∀ (c:Code) {β γ:Type} {an:Ann} {a:Qp} {σ:Qa} {K:Ex->Qp->Qa->Option β} {J:β->Option γ},
  (Zm P pl call lo c an a σ K).bind J=Zm P pl call lo c an a σ fun ex a σ=>(K ex a σ).bind J:=by
 have hroundsK:∀ {β γ:Type} {run:{β:Type}->List DV->Qa->(Ex->Qa->Option β)->Option β} (hr:∀ {β γ:Type} xs σ (K:Ex->Qa->Option β) (J:β->Option γ),(run xs σ K).bind J=run xs σ fun ex σ=>(K ex σ).bind J) (J:β->Option γ) (K:Ex->Qa->Option β) (xss:List (List DV)) (σ:Qa),
   (Uc run xss σ K).bind J=Uc run xss σ fun ex σ=>(K ex σ).bind J:=by
  intro β γ run hr J K xss
  induction xss with
  | nil=>intro σ; rfl
  | cons xs xss ih=>
   intro σ
   simp only [Uc,hr]
   congr 1
   funext ex σ'
   cases ex with
   | normal=>exact ih σ'
   | exit i=>rfl
   | ret=>rfl
 intro c
 induction c with
 | skip=>intros; rfl
 | region id ops draw=>
  intro β γ an a σ K J
  cases draw with
  | false=>simp only [Zm,Ue,Option.bind_assoc,Bool.false_eq_true,if_false]
  | true=>
   simp only [Zm,Ue,if_true]
   split
   ·simp only [Option.bind_assoc]
   ·simp only [opsKT_eq,Option.bind_assoc,List.nil_append]
    congr 1
    funext r
    cases VR P pl ops.toList (ZI P pl call ops (VH lo) ops.toList (Vn pl ops) a σ) <;> rfl
 | seq x y ihx ihy=>
  intro β γ an a σ K J
  simp only [Zm,ihx]
  congr 1
  funext ex a' σ'
  cases ex with
  | normal=>exact ihy
  | exit i=>rfl
  | ret=>rfl
 | cond c x y ihx ihy=>
  intro β γ an a σ K J
  simp only [Zm,<-ihx,<-ihy]
  unfold Qh
  split <;> rfl
 | block id x ih=>
  intro β γ an a σ K J
  simp only [Zm,ih]
  congr 1
  funext ex a' σ'
  cases ex with
  | normal=>rfl
  | exit i=>simp only []; split <;> rfl
  | ret=>rfl
 | loop x ih=>
  intro β γ an a σ K J
  simp only [Zm,loopWith,Option.bind_assoc]
 | exit id=>intros; rfl
 | ret=>intros; rfl
 | rangeFunc g ps x y ihx ihy=>
  intro β γ an a σ K J
  simp only [Zm]
  split
  ·split
   ·split
    ·refine hroundsK (run:=fun {β} xs σ K'=>Zm P pl call lo x .nil (Uv ps.toList xs a) σ fun ex a1 σ1=>match ex with
       | .normal=>Zm P pl call lo y an.left a1 σ1 fun ex _ σ2=>K' ex σ2
       | _=>none) (fun xs σ K J=>?_) J _ _ _
     rw [ihx]
     congr 1
     funext ex a1 σ1
     cases ex with
     | normal=>exact ihy
     | exit i=>rfl
     | ret=>rfl
    ·rfl
   ·rfl
  ·rfl
 | _=>intros; rfl
theorem loop_eq {β:Type} {pl:FPol} {call:Za} {lo:Nat} {x:Code} {an:Ann} {a:Qp} {σ:Qa} {K:Ex->Qp->Qa->Option β} :
  Zm P pl call lo (.loop x) an a σ K=Zm P pl call lo x an.left (an.cut a) σ fun ex a' σ'=>match ex with
   | .normal=>Zm P pl call lo (.loop x) an a' σ' K
   | ex=>K ex a' σ':=by
 have hcut:∀ a σ,Ju (fun a σ=>Zm P pl call lo x an.left (an.cut a) σ fun ex a σ=>some (ex,a,σ)) (an.cut a) σ=Ju (fun a σ=>Zm P pl call lo x an.left (an.cut a) σ fun ex a σ=>some (ex,a,σ)) a σ:=by
  intro a σ
  rw [iterL_eq,iterL_eq _ a]
  simp only [cut_cut]
 have h1:Zm P pl call lo (.loop x) an a σ K=(Ju (fun a σ=>Zm P pl call lo x an.left (an.cut a) σ fun ex a σ=>some (ex,a,σ)) a σ).bind fun r=>K r.1 r.2.1 r.2.2:=by
  simp only [Zm,loopWith,hcut]
 rw [h1,iterL_eq]
 have h2:∀ (J:St->Option β),(Zm P pl call lo x an.left (an.cut a) σ fun ex a σ=>some (ex,a,σ)).bind J=Zm P pl call lo x an.left (an.cut a) σ fun ex a σ=>J (ex,a,σ):=by
  intro J
  rw [codeK_bind]
  rfl
 refine Eq.trans ?_ (h2 fun r=>match r.1 with
  | .normal=>Zm P pl call lo (.loop x) an r.2.1 r.2.2 K
  | ex=>K ex r.2.1 r.2.2)
 generalize (Zm P pl call lo x an.left (an.cut a) σ fun ex a σ=>some (ex,a,σ))=o
 cases o with
 | none=>rfl
 | some r=>
  obtain ⟨ex,a',σ'⟩:=r
  cases ex with
  | normal=>simp only [Option.bind_some,Zm,loopWith,hcut]
  | exit i=>rfl
  | ret=>rfl
end Go.D
end
/- More fuel answers the same. -/
section
set_option linter.unusedVariables false
set_option linter.unusedSimpArgs false
namespace Go.D
variable {P : Program}
def CallLe (c c':Za):Prop:=∀ lo f args σ r,c lo f args σ=some r->c' lo f args σ=some r
theorem pureCall_le {c c':Za} (h:CallLe c c') {f:FuncId} {args:List DV} {σ:Qa} {r:DV×Qa} (hr:WM c f args σ=some r):WM c' f args σ=some r:=by
 unfold WM at hr ⊢
 split at hr
 ·rename_i hc
  rw [if_pos hc]
  split at hr
  ·rename_i v1 σ1 h1
   rw [h _ _ _ _ _ h1]; exact hr
  ·exact absurd hr (by simp)
 ·rename_i hc
  rw [if_neg hc]
  split at hr
  ·rename_i v1 σ1 h1
   rw [h _ _ _ _ _ h1]; exact hr
  ·exact absurd hr (by simp)
theorem op_le {c c':Za} (h:CallLe c c') {pl:FPol} {lo:Nat} {a:Qp} {o:Oper} {σ:Qa} {r:DV×Qa} (hr:op P pl c lo a o σ=some r):op P pl c' lo a o σ=some r:=by
 unfold op at hr
 cases ho:o.op with
 | call q=>
  simp only [ho] at hr
  cases hc:q.callee with
  | value g=>
   simp only [hc] at hr
   cases hg:ev a g with
   | fn f caps=>
    simp only [hg] at hr
    simp only [op,ho,hc,hg]
    by_cases hp:pl.isPlain o.dst=true
    ·rw [if_pos hp] at hr ⊢
     exact h _ _ _ _ _ hr
    ·rw [if_neg hp] at hr ⊢
     exact pureCall_le h hr
   | _=>simp [hg] at hr
  | builtin b=>cases b <;> (unfold op; simp only [ho,hc]; simpa only [hc] using hr)
  | invoke r m=>unfold op; simp only [ho,hc]; simpa only [hc] using hr
 | makeFunc f first caps=>cases f <;> (unfold op; simpa only [ho] using hr)
 | makeMap t n=>cases n <;> (unfold op; simpa only [ho] using hr)
 | _=>unfold op; simpa only [ho] using hr
theorem opsD_le {c c':Za} (h:CallLe c c') {pl:FPol} {all:Array Oper} {lows:Bool->Qa->Nat}:∀ {os:List Oper} {cs:List Bool} {a:Qp} {σ:Qa} {r:Qp×Qa},opsD P pl c all lows os cs a σ=some r->opsD P pl c' all lows os cs a σ=some r
 | [],cs,a,σ,r,hr=>hr
 | o::os,cs,a,σ,r,hr=>by
  simp only [opsD] at hr ⊢
  split at hr
  ·rename_i hw
   split at hr
   ·rename_i v σ1 h1
    simp only [hw,op_le h h1]
    exact opsD_le h hr
   ·exact absurd hr (by simp)
  ·rename_i hw
   try simp only [hw]
   exact opsD_le h hr
  ·exact absurd hr (by simp)
theorem traceD_le {c c':Za} (h:CallLe c c') {pl:FPol} {all:Array Oper} {lows:Bool->Qa->Nat}:∀ {os:List Oper} {cs:List Bool} {a:Qp} {σ:Qa} {r:Qp×Qa},opsD P pl c all lows os cs a σ=some r->ZI P pl c all lows os cs a σ=ZI P pl c' all lows os cs a σ
 | [],cs,a,σ,r,hr=>rfl
 | o::os,cs,a,σ,r,hr=>by
  simp only [opsD] at hr
  simp only [ZI]
  split at hr
  ·rename_i hw
   split at hr
   ·rename_i v σ1 h1
    simp only [hw,h1,op_le h h1,traceD_le h hr]
   ·exact absurd hr (by simp)
  ·rename_i hw
   simp only [hw,traceD_le h hr]
  ·exact absurd hr (by simp)
theorem iter_le {b b':Qp->Qa->Option St} (h:∀ a σ r,b a σ=some r->b' a σ=some r):∀ (k k':Nat) (a:Qp) (σ:Qa) (r:St),k<=k'->iter b k a σ=some r->iter b' k' a σ=some r
 | 0,k',a,σ,r,hk,hr=>absurd hr (by simp [iter])
 | k+1,0,a,σ,r,hk,hr=>absurd hk (by omega)
 | k+1,k'+1,a,σ,r,hk,hr=>by
  simp only [iter] at hr ⊢
  split at hr
  ·rename_i a1 σ1 h1
   rw [h _ _ _ h1]
   exact iter_le h k k' a1 σ1 r (by omega) hr
  ·rename_i hne
   have h2:=h _ _ _ hr
   rw [h2]
   obtain ⟨ex,a1,σ1⟩:=r
   cases ex with
   | normal=>exact absurd hr (hne a1 σ1)
   | exit i=>rfl
   | ret=>rfl
theorem roundsD_le {b b':List DV->Qa->Option (Ex×Qa)} (h:∀ xs σ r,b xs σ=some r->b' xs σ=some r):∀ (xss:List (List DV)) (σ:Qa) (r:Ex×Qa),ZR b xss σ=some r->ZR b' xss σ=some r
 | [],σ,r,hr=>hr
 | xs::xss,σ,r,hr=>by
  simp only [ZR] at hr ⊢
  split at hr
  ·rename_i σ1 h1
   rw [h _ _ _ h1]
   exact roundsD_le h xss σ1 r hr
  ·rename_i hne
   have h2:=h _ _ _ hr
   rw [h2]
   obtain ⟨ex,σ1⟩:=r
   cases ex with
   | normal=>exact absurd hr (hne σ1)
   | exit i=>rfl
   | ret=>rfl
theorem code_le {c c':Za} (h:CallLe c c') {pl:FPol} {k k' lo:Nat} (hk:k<=k'):∀ (x:Code) (an:Ann) (a:Qp) (σ:Qa) (r:St),code P pl c k lo x an a σ=some r->code P pl c' k' lo x an a σ=some r:=by
 intro x
 induction x with
 | region id ops draw=>
  intro an a σ r hr
  simp only [code] at hr ⊢
  obtain ⟨⟨a1,σ1⟩,h1,rfl⟩:=Option.map_eq_some_iff.1 hr
  have:region P pl c' lo ops draw a σ=some (a1,σ1):=by
   unfold region at h1 ⊢
   cases draw with
   | true=>
    simp only [if_true] at h1 ⊢
    split at h1
    ·rename_i hst
     have hst2:(pl.rload.isEmpty||VR P pl ops.toList (ZI P pl c' ops (VH lo) ops.toList (Vn pl ops) a σ))=true:=by
      rw [<-traceD_le h h1]; exact hst
     rw [if_pos hst2]
     exact opsD_le h h1
    ·exact absurd h1 (by simp)
   | false=>simp only [Bool.false_eq_true,if_false] at h1 ⊢; exact opsD_le h h1
  rw [this]; rfl
 | seq x y ihx ihy=>
  intro an a σ r hr
  simp only [code] at hr ⊢
  split at hr
  ·rename_i a1 σ1 h1
   rw [ihx _ _ _ _ h1]
   exact ihy _ _ _ _ hr
  ·rename_i hne
   have h2:=ihx _ _ _ _ hr
   rw [h2]
   obtain ⟨ex,a1,σ1⟩:=r
   cases ex with
   | normal=>exact absurd hr (hne a1 σ1)
   | exit i=>rfl
   | ret=>rfl
 | cond q x y ihx ihy=>
  intro an a σ r hr
  simp only [code] at hr ⊢
  split at hr
  ·rename_i hc; (try simp only [hc]); exact ihx _ _ _ _ hr
  ·rename_i hc; (try simp only [hc]); exact ihy _ _ _ _ hr
  ·exact absurd hr (by simp)
 | block id x ih=>
  intro an a σ r hr
  simp only [code] at hr ⊢
  split at hr
  ·rename_i h1; rw [ih _ _ _ _ h1]; exact hr
  ·rename_i h1; rw [ih _ _ _ _ h1]; exact hr
  ·rename_i h1; rw [ih _ _ _ _ h1]; exact hr
  ·exact absurd hr (by simp)
 | loop x ih=>
  intro an a σ r hr
  simp only [code] at hr ⊢
  exact iter_le (fun a σ r hr=>ih _ _ _ _ hr) _ _ _ _ _ hk hr
 | rangeFunc g ps x y ihx ihy=>
  intro an a σ r hr
  simp only [code] at hr ⊢
  split at hr
  ·rename_i f caps hg
   try simp only [hg]
   split at hr
   ·rename_i xss hx
    try simp only [hx]
    split at hr
    ·rename_i hc
     rw [if_pos hc]
     obtain ⟨⟨ex,σ1⟩,h1,rfl⟩:=Option.map_eq_some_iff.1 hr
     rw [roundsD_le (fun xs σ r hr=>?_) _ _ _ h1]
     ·rfl
     ·obtain ⟨ex,σ2⟩:=r
      obtain ⟨a1,σ1,a2,h2,h3⟩:=roundWith_some hr
      simp only [ZV,ihx _ _ _ _ h2,ihy _ _ _ _ h3]
    ·exact absurd hr (by simp)
   ·exact absurd hr (by simp)
  ·exact absurd hr (by simp)
 | _=>
  intro an a σ r hr
  simp only [code] at hr ⊢
  exact hr
theorem callK_le {pol:FuncId->FPol}:∀ k,CallLe (callK P pol k) (callK P pol (k+1))
 | 0=>fun lo f args σ r h=>absurd h (by simp [callK])
 | k+1=>by
  intro lo f args σ r h
  rw [callK] at h ⊢
  split at h
  ·rename_i fn hf
   split at h
   ·rename_i c hname hb
    try simp only [hf,hname,hb]
    split at h
    ·exact absurd h (by simp)
    rename_i hd
    rw [if_neg hd]
    split at h
    ·rename_i a1 σ1 h1
     rw [code_le (callK_le k) (Nat.le_succ k) _ _ _ _ _ h1]
     exact h
    ·rename_i a1 σ1 h1
     rw [code_le (callK_le k) (Nat.le_succ k) _ _ _ _ _ h1]
     exact h
    ·exact absurd h (by simp)
   ·exact absurd h (by simp)
  ·exact absurd h (by simp)
theorem callL_at {pol:FuncId->FPol} {k lo:Nat} {f:FuncId} {args:List DV} {σ:Qa} {r:DV×Qa} (h:callK P pol k lo f args σ=some r):callL P pol lo f args σ=some r:=by
 refine lim_eq ⟨k,fun m hm=>?_⟩
 obtain ⟨d,rfl⟩:=Nat.exists_eq_add_of_le hm
 clear hm
 induction d with
 | zero=>exact h
 | succ d ih=>exact callK_le (k+d) _ _ _ _ _ ih
end Go.D
end
/- The continuation style once more, so that a kernel works out frames as it goes. -/
section
set_option linter.unusedVariables false
set_option linter.unusedSimpArgs false
namespace Go.D
section
variable {β : Type}
def tall:Unit:=(fun (_:DV->Bool->Option (DV×Qa)->Qa->(DV->Qa->Option Unit)->Option Unit)=>()) guardK
def high (x:β):β:=match tall with | ()=>x
theorem high_eq (x:β):high x=x:=rfl
def getK:List DV->Nat->(DV->β)->β
 | [],_,K=>K .undef
 | x::_,0,K=>high (K x)
 | _::xs,n+1,K=>getK xs n K
theorem getK_eq:∀ (a:List DV) (n:Nat) (K:DV->β),getK a n K=K (a.getD n .undef)
 | [],n,K=>by simp [getK]
 | x::_,0,K=>rfl
 | _::xs,n+1,K=>by simpa [getK] using getK_eq xs n K
def evK (a:Qp) (x:Operand) (K:DV->β):β:=match x with
 | .tmp t=>getK a t K
 | .const v=>K (cst v)
 | .global _=>K .undef
 | .func f=>K (.fn f [])
theorem VZ (a:Qp) (x:Operand) (K:DV->β):evK a x K=K (ev a x):=by
 cases x <;> first | rfl | exact getK_eq _ _ _
def evsK (a:Qp):List Operand->(List DV->β)->β
 | [],K=>K []
 | x::xs,K=>evK a x fun v=>evsK a xs fun vs=>K (v::vs)
theorem Ui (a:Qp):∀ (xs:List Operand) (K:List DV->β),evsK a xs K=K (xs.map (ev a))
 | [],K=>rfl
 | x::xs,K=>by simp only [evsK,VZ,Ui a xs,List.map_cons]
def partsK (a:Qp):List (Nat×Operand)->(List (Nat×DV)->β)->β
 | [],K=>K []
 | q::xs,K=>evK a q.2 fun v=>partsK a xs fun vs=>K ((q.1,v)::vs)
theorem partsK_eq (a:Qp):∀ (xs:List (Nat×Operand)) (K:List (Nat×DV)->β),partsK a xs K=K (xs.map fun q=>(q.1,ev a q.2))
 | [],K=>rfl
 | q::xs,K=>by simp only [partsK,VZ,partsK_eq a xs,List.map_cons]
def optK (a:Qp) (x:Option Operand) (K:Option DV->β):β:=match x with
 | none=>K none
 | some x=>evK a x fun v=>K (some v)
theorem optK_eq (a:Qp) (x:Option Operand) (K:Option DV->β):optK a x K=K (x.map (ev a)):=by
 cases x <;> simp [optK,VZ]
def setK:List DV->Nat->DV->(List DV->β)->β
 | [],_,_,K=>K []
 | x::xs,0,v,K=>high (K (v::xs))
 | x::xs,n+1,v,K=>setK xs n v fun xs'=>K (x::xs')
theorem setK_eq:∀ (a:List DV) (n:Nat) (v:DV) (K:List DV->β),setK a n v K=K (a.set n v)
 | [],n,v,K=>by simp [setK]
 | x::xs,0,v,K=>by simp [setK,high_eq]
 | x::xs,n+1,v,K=>by simp [setK,setK_eq xs n v]
def putK (a:Qp) (d:Option Tmp) (v:DV) (K:Qp->β):β:=match d with
 | some d=>setK a d v K
 | none=>K a
theorem putK_eq (a:Qp) (d:Option Tmp) (v:DV) (K:Qp->β):putK a d v K=K (put a d v):=by
 cases d <;> first | rfl | exact setK_eq _ _ _ _
def Jf:List Bool->Qp->(Qp->β)->β
 | _,[],K=>K []
 | [],v::a,K=>Jf [] a fun r=>K (.undef::r)
 | true::bs,v::a,K=>Jf bs a fun r=>K (v::r)
 | false::bs,v::a,K=>Jf bs a fun r=>K (.undef::r)
theorem maskK_eq:∀ (m:List Bool) (a:Qp) (K:Qp->β),Jf m a K=K (mask m a)
 | m,[],K=>by cases m <;> simp [Jf,mask]
 | [],v::a,K=>by simp [Jf,mask,maskK_eq [] a]
 | b::bs,v::a,K=>by cases b <;> simp [Jf,mask,maskK_eq bs a]
def cutK (an:Ann) (a:Qp) (K:Qp->β):β:=match an with
 | .keep m _=>Jf m a K
 | _=>K a
theorem cutK_eq (an:Ann) (a:Qp) (K:Qp->β):cutK an a K=K (an.cut a):=by
 cases an <;> first | rfl | exact maskK_eq _ _ _
def opF (P:Program) (pl:FPol) (call:Za) (lo:Nat) (a:Qp) (o:Oper) (σ:Qa) (K:DV->Qa->Option β):Option β:=
 match o.op with
 | .move x | .assign x=>evK a x fun x=>K x σ
 | .pick c x y=>evK a c fun c=>evK a x fun x=>evK a y fun y=>(Qt c x y).bind fun v=>K v σ
 | .alloc t=>(Qx P t).bind fun z=>K (.ptr σ.length 0) (σ++[.mix z])
 | .box _ x=>evK a x fun x=>cond (pl.isPbox o.dst) ((boxP x).bind fun v=>K v σ) ((boxV x).bind fun cs=>K (.ptr σ.length 0) (σ++[.mix cs]))
 | .build t ps=>partsK a ps.toList fun ps=>(build P t ps).bind fun v=>K v σ
 | .buildSlice t n ps=>partsK a ps.toList fun ps=>(buildSlice P (pl.asRow o.dst) t n ps σ).bind fun r=>K r.1 r.2
 | .load t x=>evK a x fun x=>(Js P pl o.dst t x σ).bind fun v=>K v σ
 | .store t x y=>evK a x fun x=>evK a y fun y=>(store P lo t x y σ).bind fun σ'=>K .undef σ'
 | .nilCheck x=>evK a x fun x=>(QY x).bind fun v=>K v σ
 | .binOp op t x y _=>cond (nilConst y) (evK a x fun x=>(ifaceNil P op t x).bind fun v=>K v σ) (evK a x fun x=>evK a y fun y=>(binOp P op t x y).bind fun v=>K v σ)
 | .unOp op _ x=>evK a x fun x=>(unOp op x).bind fun v=>K v σ
 | .convert s d x=>evK a x fun x=>(convert P s d x).bind fun v=>K v σ
 | .makeFunc (.func f) first caps=>if first.size=0 then evsK a caps.toList fun cs=>K (.fn f cs) σ else none
 | .makeMap _ none=>K (.map σ.length) (σ++[.map []])
 | .makeSlice t l c=>evK a l fun l=>evK a c fun c=>(makeSlice P (pl.isMixed o.dst) t l c σ).bind fun r=>K r.1 r.2
 | .slice t x l h m=>evK a x fun x=>optK a l fun l=>optK a h fun h=>optK a m fun m=>(Zy P t x l h m).bind fun v=>K v σ
 | .fieldAddr t x i=>evK a x fun x=>(fieldAddr P t x i).bind fun v=>K v σ
 | .field t x i=>evK a x fun x=>(field P t x i).bind fun v=>K v σ
 | .indexAddr t x i=>evK a x fun x=>evK a i fun i=>(indexAddr P t x i).bind fun v=>K v σ
 | .index t x i=>evK a x fun x=>evK a i fun i=>(index P t x i).bind fun v=>K v σ
 | .lookup t x i ok=>evK a x fun x=>evK a i fun i=>(lookup P t x i ok σ).bind fun v=>K v σ
 | .mapUpdate t m k v=>evK a m fun m=>evK a k fun k=>evK a v fun v=>(mapUpdate P lo t m k v σ).bind fun σ'=>K .undef σ'
 | .extract x i=>evK a x fun x=>(Qj x i).bind fun v=>K v σ
 | .call c=>
  match c.callee with
  | .builtin .len=>if c.args.size=1/\c.argTypes.size=1 then evK a (c.args.getD 0 (.const undef)) fun x=>(len P (c.argTypes.getD 0 0) x σ).bind fun v=>K v σ else none
  | .builtin .append=>if c.args.size=2/\c.argTypes.size=2 then evK a (c.args.getD 0 (.const undef)) fun x=>evK a (c.args.getD 1 (.const undef)) fun y=>(append P lo (pl.isMixed o.dst) (c.argTypes.getD 0 0) (c.argTypes.getD 1 0) x y σ).bind fun r=>K r.1 r.2 else none
  | .builtin .max=>evsK a c.args.toList fun xs=>(UA true xs).bind fun v=>K v σ
  | .builtin .min=>evsK a c.args.toList fun xs=>(UA false xs).bind fun v=>K v σ
  | .builtin .cap=>if c.args.size=1/\c.argTypes.size=1 then evK a (c.args.getD 0 (.const undef)) fun x=>(capOp P (c.argTypes.getD 0 0) x).bind fun v=>K v σ else none
  | .builtin .clear=>if c.args.size=1/\c.argTypes.size=1 then evK a (c.args.getD 0 (.const undef)) fun x=>(VJ P lo (c.argTypes.getD 0 0) x σ).bind fun σ'=>K .undef σ' else none
  | .builtin .copy=>if c.args.size=2/\c.argTypes.size=2 then evK a (c.args.getD 0 (.const undef)) fun x=>evK a (c.args.getD 1 (.const undef)) fun y=>(US P lo (c.argTypes.getD 0 0) x y σ).bind fun r=>K r.1 r.2 else none
  | .builtin _=>none
  | .value g=>evK a g fun g=>evsK a c.args.toList fun xs=>if pl.isPlain o.dst then (Qd call lo g xs σ).bind fun r=>K r.1 r.2
   else (Qg call g xs σ).bind fun v=>K v σ
  | .invoke _ _=>none
 | _=>none
theorem opF_eq (P:Program) (pl:FPol) (call:Za) (lo:Nat) (a:Qp) (o:Oper) (σ:Qa) (K:DV->Qa->Option β):opF P pl call lo a o σ K=opK P pl call lo a o σ K:=by
 cases ho:o.op
 case makeFunc f first caps=>first | (simp only [opF,opK,ho,VZ,Ui,partsK_eq,optK_eq]; done) | (cases f <;> simp only [opF,opK,ho,Ui])
 case makeMap t n=>first | (simp only [opF,opK,ho,VZ,Ui,partsK_eq,optK_eq]; done) | (cases n <;> simp only [opF,opK,ho])
 case call c=>
  first
  | (simp only [opF,opK,ho,VZ,Ui,partsK_eq,optK_eq]; done)
  | (simp only [opF,opK,ho]
     cases hc:c.callee with
     | builtin b=>cases b <;> simp only [VZ,Ui]
     | value g=>simp only [VZ,Ui]
     | invoke r m=>rfl)
 all_goals simp only [opF,opK,ho,VZ,Ui,partsK_eq,optK_eq]
def guardF (all:Array Oper) (a:Qp) (j:Nat) (K:DV->β):β:=match (all.toList[j]?).bind (·.dst) with
 | some t=>getK a t K
 | none=>K .undef
theorem guardF_eq (all:Array Oper) (a:Qp) (j:Nat) (K:DV->β):guardF all a j K=K (VC all a j):=by
 unfold guardF VC
 rw [Array.getElem?_toList]
 cases (all[j]?).bind (·.dst) <;> first | rfl | exact getK_eq _ _ _
abbrev Qe:=(β:Type)->DV->Bool->Option (DV×Qa)->Qa->(DV->Qa->Option β)->Option β
def Qb:Qe:=fun _=>guardK
def opsF (G:Qe) (P:Program) (pl:FPol) (call:Za) (all:Array Oper) (lows:Bool->Qa->Nat):List Oper->List Bool->Qp->Qa->(Qp->Qa->Option β)->Option β
 | [],_,a,σ,K=>K a σ
 | o::os,cs,a,σ,K=>match o.guard with
  | none=>opF P pl call (lows (cs.headD true) σ) a o σ fun v σ'=>putK a o.dst v fun a=>opsF G P pl call all lows os cs.tail a σ' K
  | some (j,want)=>guardF all a j fun g=>G β g want (opF P pl call (lows (cs.headD true) σ) a o σ fun v σ'=>some (v,σ')) σ fun v σ'=>putK a o.dst v fun a=>opsF G P pl call all lows os cs.tail a σ' K
theorem opsF_eq (P:Program) (pl:FPol) (call:Za) (all:Array Oper) (lows:Bool->Qa->Nat):∀ (os:List Oper) (cs:List Bool) (a:Qp) (σ:Qa) (K:Qp->Qa->Option β),
  opsF Qb P pl call all lows os cs a σ K=opsK P pl call all lows os cs a σ K
 | [],cs,a,σ,K=>rfl
 | o::os,cs,a,σ,K=>by
  cases hg:o.guard with
  | none=>simp only [opsF,opsK,hg,opF_eq,putK_eq,opsF_eq P pl call all lows os]
  | some g=>
   simp only [opsF,opsK,hg,opF_eq,putK_eq,guardF_eq,opsF_eq P pl call all lows os]
   rfl
end
section
variable {β : Type}
def opsFT (G:Qe) (P:Program) (pl:FPol) (call:Za) (all:Array Oper) (lows:Bool->Qa->Nat):List Oper->List Bool->Qp->Qa->List (Qp×Qa)->(Qp->Qa->List (Qp×Qa)->Option β)->Option β
 | [],_,a,σ,tr,K=>K a σ (tr++[(a,σ)])
 | o::os,cs,a,σ,tr,K=>match o.guard with
  | none=>opF P pl call (lows (cs.headD true) σ) a o σ fun v σ'=>putK a o.dst v fun a2=>opsFT G P pl call all lows os cs.tail a2 σ' (tr++[(a,σ)]) K
  | some (j,want)=>guardF all a j fun g=>G β g want (opF P pl call (lows (cs.headD true) σ) a o σ fun v σ'=>some (v,σ')) σ fun v σ'=>putK a o.dst v fun a2=>opsFT G P pl call all lows os cs.tail a2 σ' (tr++[(a,σ)]) K
theorem opsFT_eq (P:Program) (pl:FPol) (call:Za) (all:Array Oper) (lows:Bool->Qa->Nat):∀ (os:List Oper) (cs:List Bool) (a:Qp) (σ:Qa) (tr:List (Qp×Qa)) (K:Qp->Qa->List (Qp×Qa)->Option β),
  opsFT Qb P pl call all lows os cs a σ tr K=Je P pl call all lows os cs a σ tr K
 | [],cs,a,σ,tr,K=>rfl
 | o::os,cs,a,σ,tr,K=>by
  cases hg:o.guard with
  | none=>simp only [opsFT,Je,hg,opF_eq,putK_eq,opsFT_eq P pl call all lows os]
  | some g=>
   simp only [opsFT,Je,hg,opF_eq,putK_eq,guardF_eq,opsFT_eq P pl call all lows os]
   rfl
end
noncomputable def Qm (G:Qe) (P:Program) (pl:FPol) (call:Za) (lo:Nat):Code->{β:Type}->Ann->Qp->Qa->(Ex->Qp->Qa->Option β)->Option β
 | .skip,_,_,a,σ,K=>K .normal a σ
 | .region _ ops draw,_,_,a,σ,K=>if draw then (if pl.rload.isEmpty then opsF G P pl call ops (VH lo) ops.toList (Vn pl ops) a σ (K .normal) else opsFT G P pl call ops (VH lo) ops.toList (Vn pl ops) a σ [] fun a' σ' tr=>bif VR P pl ops.toList tr then K .normal a' σ' else none) else opsF G P pl call ops (fun _ _=>lo) ops.toList [] a σ (K .normal)
 | .seq x y,_,an,a,σ,K=>Qm G P pl call lo x an.left a σ fun ex a' σ'=>match ex with
  | .normal=>Qm G P pl call lo y an.right a' σ' K
  | ex=>K ex a' σ'
 | .cond c x y,_,an,a,σ,K=>evK a c fun c=>Qh c (Qm G P pl call lo x an.left a σ K) (Qm G P pl call lo y an.right a σ K)
 | .block id x,_,an,a,σ,K=>Qm G P pl call lo x an.left a σ fun ex a' σ'=>match ex with
  | .normal=>cutK an a' fun a2=>K .normal a2 σ'
  | .exit i=>if i=id then cutK an a' fun a2=>K .normal a2 σ' else K (.exit i) a' σ'
  | .ret=>K .ret a' σ'
 | .loop x,_,an,a,σ,K=>cutK an a fun a2=>loopWith (fun a σ=>Qm G P pl call lo x an.left (an.cut a) σ fun ex a σ=>some (ex,a,σ)) a2 σ K
 | .exit id,_,_,a,σ,K=>K (.exit id) a σ
 | .ret,_,_,a,σ,K=>K .ret a σ
 | .rangeFunc g ps x y,_,an,a,σ,K=>evK a g fun g=>match g with
  | .fn f caps=>match (pl.seq f).bind fun kind=>seqList kind caps with
   | some xss=>
    if xss.all (·.length==ps.size)&&!Wx x&&!Wx y then
     Uc (fun xs σ K'=>Qm G P pl call lo x .nil (Uv ps.toList xs a) σ fun ex a1 σ1=>match ex with
      | .normal=>Qm G P pl call lo y an.left a1 σ1 fun ex _ σ2=>K' ex σ2
      | _=>none) xss σ fun ex σ'=>K ex a σ'
    else none
   | none=>none
  | _=>none
 | _,_,_,_,_,_=>none
theorem codeF_eq {P:Program} {pl:FPol} {call:Za} {lo:Nat}:∀ (c:Code) {β:Type} {an:Ann} {a:Qp} {σ:Qa} {K:Ex->Qp->Qa->Option β},Qm Qb P pl call lo c an a σ K=Zm P pl call lo c an a σ K:=by
 intro c
 induction c with
 | region id ops draw=>intros; simp only [Qm,Zm,opsF_eq,opsFT_eq]
 | seq x y ihx ihy=>
  intro β an a σ K
  simp only [Qm,Zm,ihx]
  congr 1
  funext ex a' σ'
  cases ex with
  | normal=>exact ihy
  | exit i=>rfl
  | ret=>rfl
 | cond c x y ihx ihy=>intros; simp only [Qm,Zm,VZ,ihx,ihy]
 | block id x ih=>
  intro β an a σ K
  first
  | (simp only [Qm,Zm,ih,cutK_eq]; done)
  | (simp only [Qm,Zm,ih,cutK_eq]; congr 1)
 | loop x ih=>intros; simp only [Qm,Zm,ih,cutK_eq]
 | rangeFunc g ps x y ihx ihy=>
  intro β an a σ K
  first
  | (simp only [Qm,Zm,VZ,ihx,ihy]; done)
  | (simp only [Qm,Zm,VZ,ihx,ihy]; cases ev a g <;> try rfl)
 | _=>intros; rfl
def Qo (G:Qe):Prop:=G=Qb
theorem Ql {P:Program} {β:Type} {pl:FPol} {call:Za} {lo:Nat} {x:Code} {an:Ann} {a:Qp} {σ:Qa} {K:Ex->Qp->Qa->Option β} (G:Qe) (hG:Qo G) :
  Qm G P pl call lo (.loop x) an a σ K=cutK an a fun a=>Qm G P pl call lo x an.left a σ fun ex a' σ'=>match ex with
   | .normal=>Qm G P pl call lo (.loop x) an a' σ' K
   | ex=>K ex a' σ':=by
 cases hG
 simp only [codeF_eq,cutK_eq]
 exact loop_eq
end Go.D
end
/- What the generated texts need: contexts as functions, results in continuation style. -/
section
set_option linter.unusedVariables false
set_option linter.unusedSimpArgs false
namespace Go.D
abbrev Z:DV:=.undef
abbrev tt:Bool:=true
abbrev ff:Bool:=false
def Vy (P:Program) (t:TypeId) (x:DV) (σ:Qa):Option DV:=match x with
 | .ptr r off=>load P t (.ptr r off) σ
 | _=>none
def resK {β:Type} (P:Program) (a:Qp) (σ:Qa):List ResultVar->(List DV->Option β)->Option β
 | [],K=>K []
 | .tmp t::rs,K=>resK P a σ rs fun vs=>K (a.getD t .undef::vs)
 | .cell x t::rs,K=>(Vy P t (a.getD x .undef) σ).bind fun v=>resK P a σ rs fun vs=>K (v::vs)
theorem resK_eq {β:Type} (P:Program) (a:Qp) (σ:Qa):∀ (rs:List ResultVar) (K:List DV->Option β),resK P a σ rs K=(ZF P a σ rs).bind K
 | [],K=>rfl
 | .tmp t::rs,K=>by
  simp only [resK,ZF,resultOf,resK_eq P a σ rs]
  cases ZF P a σ rs <;> rfl
 | .cell x t::rs,K=>by
  simp only [resK,ZF,resultOf,resK_eq P a σ rs]
  unfold Vy
  generalize a.getD x .undef=g
  cases g <;> try rfl
  rename_i r off
  simp only []
  cases load P t (.ptr r off) σ <;> first | rfl | (cases ZF P a σ rs <;> rfl)
def finR (P:Program) (rs:List ResultVar):Ex->Qp->Qa->Option (DV×Qa)
 | .normal,a,σ=>resK P a σ rs fun vs=>some (wrap vs,σ)
 | .ret,a,σ=>resK P a σ rs fun vs=>some (wrap vs,σ)
 | _,_,_=>none
theorem finR_eq (P:Program) (rs:List ResultVar):finR P rs=finK P rs:=by
 funext ex a σ
 cases ex <;> first | rfl | exact resK_eq P a σ rs _
def Qs (f:Func):Code:=f.body.getD .skip
theorem callL_run {P : Program} {pol : FuncId → FPol} {f lo : Nat} {fn : Func} {args : List DV} {σ : Qa} {r : DV × Qa} (hf : P.funcs[f]? = some fn) (hname : (fn.name == "runtime.NumGoroutine") = false) (hb : fn.body.isSome = true) (hd : Wg (Qs fn) = true)
  (h:Qm Qb P (pol f) (callL P pol) lo (Qs fn) (pol f).ann (args++List.replicate (fn.ntmps-args.length) .undef) σ (finR P fn.results.toList)=some r):callL P pol lo f args σ=some r:=by
 obtain ⟨c,hc⟩:=Option.isSome_iff_exists.1 hb
 have e:Qs fn=c:=by unfold Qs; rw [hc]; rfl
 rw [e] at hd h
 rw [finR_eq,codeF_eq] at h
 exact callL_of hf hname hc hd h
def Code.fstC:Code->Code
 | .seq x _=>x | .cond _ x _=>x | .block _ x=>x | .loop x=>x | .rangeFunc _ _ x _=>x | c=>c
def Code.sndC:Code->Code
 | .seq _ y=>y | .cond _ _ y=>y | .rangeFunc _ _ _ y=>y | c=>c
def VL {β:Type} (N:Qp->Qa->Option β) (E:Ex->Qp->Qa->Option β):Ex->Qp->Qa->Option β:=fun ex a σ=>match ex with
 | .normal=>N a σ
 | ex=>E ex a σ
theorem WG {β:Type} (K:Ex->Qp->Qa->Option β):VL (K .normal) K=K:=by
 funext ex a σ
 cases ex <;> rfl
section
variable {β : Type} (G : Qe) (P : Program) (pl : FPol) (call : Za) (lo : Nat)
noncomputable def seqC (y:Code) (an:Ann) (K:Ex->Qp->Qa->Option β):Ex->Qp->Qa->Option β:=fun ex a σ=>match ex with
 | .normal=>Qm G P pl call lo y an a σ K
 | ex=>K ex a σ
def Qf (id:Nat) (an:Ann) (K:Ex->Qp->Qa->Option β):Ex->Qp->Qa->Option β:=fun ex a σ=>match ex with
 | .normal=>cutK an a fun a2=>K .normal a2 σ
 | .exit i=>if i=id then cutK an a fun a2=>K .normal a2 σ else K (.exit i) a σ
 | .ret=>K .ret a σ
noncomputable def QN (x:Code) (an:Ann) (K:Ex->Qp->Qa->Option β):Ex->Qp->Qa->Option β:=fun ex a σ=>match ex with
 | .normal=>Qm G P pl call lo (.loop x) an a σ K
 | ex=>K ex a σ
end
end Go.D
end
