/- Equations of functions 111, 121, 122, 134, 135, 126, 127, 146, 128, 147, 148, 129, 149, 150, 162, 130, 131, 132, 133, printed by gen.py. -/
import Derived.Test.YtkpdgafinpedgaaGreatUc
section
set_option linter.unusedVariables false
set_option maxRecDepth 10000
namespace Go.D
open Go.Proofs
noncomputable section
variable (G:Qe) (lo:Nat) {σ:Qa} {r:DV×Qa}
open _root_.Go.D.Code (fstC sndC)
open _root_.Go.D.Ann (left right)
def UJ:ByteArray:=⟨#[0,1,2,2,3,3,3,3,4,4,4,4,4,4,4,4,5,5,5,5,5,5,5,5,5,5,5,5,5,5,5,5,6,6,6,6,6,6,6,6,6,6,6,6,6,6,6,6,6,6,6,6,6,6,6,6,6,6,6,6,6,6,6,6,7,7,7,7,7,7,7,7,7,7,7,7,7,7,7,7,7,7,7,7,7,7,7,7,7,7,7,7,7,7,7,7,7,7,7,7,7,7,7,7,7,7,7,7,7,7,7,7,7,7,7,7,7,7,7,7,7,7,7,7,7,7,7,7,8,8,8,8,8,8,8,8,8,8,8,8,8,8,8,8,8,8,8,8,8,8,8,8,8,8,8,8,8,8,8,8,8,8,8,8,8,8,8,8,8,8,8,8,8,8,8,8,8,8,8,8,8,8,8,8,8,8,8,8,8,8,8,8,8,8,8,8,8,8,8,8,8,8,8,8,8,8,8,8,8,8,8,8,8,8,8,8,8,8,8,8,8,8,8,8,8,8,8,8,8,8,8,8,8,8,8,8,8,8,8,8,8,8,8,8,8,8,8,8,8,8,8,8,8,8,8,8]⟩
def c111_0:Code:=Qs Tryz.f111
def a111_0:Ann:=(pol 111).ann
def F111 (a b:DV) (σ:Qa):RS:=
 Qm G PP (pol 111) CC lo c111_0 a111_0 (a::b::zn 12 []) σ (finR PP Tryz.f111.results.toList)
theorem F111_eq (G:Qe) (lo:Nat) (a b:DV) (σ:Qa):F111 G lo a b σ =
 (len PP 134 a σ).bind fun O=>
 (convert PP 3 165 O).bind fun i=>
 (Qg CC (DV.fn 122 []) [i] σ).bind fun j=>
 (Qd CC lo (DV.fn 121 []) [a,I0,O,j,b] σ).bind fun r13_1=>
 some ((DV.tuple []),r13_1.2):=by kernel_rfl
theorem F111_call {lo:Nat} {a b:DV} (h:F111 Qb lo a b σ=some r):CC lo 111 [a,b] σ=some r:=
 callL_run Tryz.func111 (by decide +kernel) rfl (by decide +kernel) h
def c121_0:Code:=Qs Tryz.f121
def a121_0:Ann:=(pol 121).ann
def a121_4:Ann:=right (right a121_0)
def a121_5:Ann:=left a121_4
def c121_6:Code:=fstC (fstC (sndC (sndC c121_0)))
def a121_6:Ann:=left a121_5
def c121_33:Code:=sndC (sndC (sndC (sndC (fstC c121_6))))
def a121_33:Ann:=right (right (right (right (left a121_6))))
def c121_45:Code:=sndC (sndC c121_33)
def a121_45:Ann:=right (right a121_33)
def c121_55:Code:=sndC c121_45
def a121_55:Ann:=right a121_45
def f121_L0 (a b c d f i j:DV) (σ:Qa):RS:=
 Qm G PP (pol 121) CC lo (.loop c121_6) a121_5 (a::b::c::d::f::zn 5 (i::j::zn 136 [])) σ
 (Qf 0 a121_4 (finR PP Tryz.f121.results.toList))
def f121_J0 (a b c d f i j l u o z K A B I Y L C x y X P N t:DV) (σ:Qa):RS:=
 (seqC G PP (pol 121) CC lo c121_33 a121_33 (Qf 1 a121_6 (QN G PP (pol 121) CC lo c121_6 a121_5 (Qf 0 a121_4 (finR PP Tryz.f121.results.toList))))) .normal (a::b::c::d::f::zn 5 (i::j::l::zn 8 (u::o::z::K::A::zn 5 (B::I::zn 5 (Y::L::C::x::y::X::P::N::t::zn 101 []))))) σ
def f121_J1 (a b c d f i j l q w u o z K A B I Y L C x y X P N t J E ak ar az T W aa b9 be bp av bc bb bh bm bi bj bu bg bf:DV) (σ:Qa):RS:=
 (seqC G PP (pol 121) CC lo c121_45 a121_45 (Qf 1 a121_6 (QN G PP (pol 121) CC lo c121_6 a121_5 (Qf 0 a121_4 (finR PP Tryz.f121.results.toList))))) .normal (a::b::c::d::f::zn 5 (i::j::l::q::w::zn 6 (u::o::z::K::A::zn 5 (B::I::zn 5 (Y::L::C::x::y::X::P::N::t::J::E::ak::ar::az::T::W::aa::b9::be::bp::av::bc::bb::bh::bm::bi::bj::bu::bg::bf::zn 80 []))))) σ
def f121_J2 (a b c d f i j l q w u o z K A B I Y L C x y X P N t J E ak ar az T W aa b9 be bp av bc bb bh bm bi bj bu bg bf cm dc br ba cz cc M ck ca bq bz bv c7:DV) (σ:Qa):RS:=
 (seqC G PP (pol 121) CC lo c121_55 a121_55 (Qf 1 a121_6 (QN G PP (pol 121) CC lo c121_6 a121_5 (Qf 0 a121_4 (finR PP Tryz.f121.results.toList))))) .normal (a::b::c::d::f::zn 5 (i::j::l::q::w::zn 6 (u::o::z::K::A::zn 5 (B::I::zn 5 (Y::L::C::x::y::X::P::N::t::J::E::ak::ar::az::T::W::aa::b9::be::bp::av::bc::bb::bh::bm::bi::bj::bu::bg::bf::cm::dc::br::ba::cz::cc::M::ck::ca::bq::bz::bv::c7::zn 67 []))))) σ
def F121 (a b c d f:DV) (σ:Qa):RS:=
 Qm G PP (pol 121) CC lo c121_0 a121_0 (a::b::c::d::f::zn 143 []) σ (finR PP Tryz.f121.results.toList)
theorem f121_J0_eq (G:Qe) (lo:Nat) (a b c d f i j l u o z K A B I Y L C x y X P N t:DV) (σ:Qa):f121_J0 G lo a b c d f i j l u o z K A B I Y L C x y X P N t σ =
 (Qd CC lo (DV.fn 129 []) [a,b,c,f] σ).bind fun r52_4=>
 (Qj r52_4.1 0).bind fun W=>
 (Qj r52_4.1 1).bind fun aa=>
 (binOp PP .eql 169 aa (DV.p (PV.int IntKind.i64 (2)))).bind fun be=>
 Qh be
 (
 (Qd CC lo (DV.fn 130 []) [a,b,c,f] r52_4.2).bind fun r61_5=>
 (binOp PP .sub 3 c I1).bind fun bi=>
 (binOp PP .sub 3 W b).bind fun bg=>
 (binOp PP .sub 3 bi bg).bind fun bf=>
 f121_J1 G lo a b c d f i j l bf I1 u o z K A B I Y L C x y X P N t r52_4.1 a b c f r52_4.1 W aa aa be a b c f r61_5.1 c bi W b bg bf r61_5.2
 )
 (
 f121_J1 G lo a b c d f i j l W aa u o z K A B I Y L C x y X P N t r52_4.1 a b c f r52_4.1 W aa aa be Z Z Z Z Z Z Z Z Z Z Z r52_4.2
 ):=by kernel_rfl
theorem f121_J1_eq (G:Qe) (lo:Nat) (a b c d f i j l q w u o z K A B I Y L C x y X P N t J E ak ar az T W aa b9 be bp av bc bb bh bm bi bj bu bg bf:DV) (σ:Qa):f121_J1 G lo a b c d f i j l q w u o z K A B I Y L C x y X P N t J E ak ar az T W aa b9 be bp av bc bb bh bm bi bj bu bg bf σ =
 G _ i true (some (j,σ)) σ fun br σ6=>
 (Qt i br (DV.p (PV.bool false))).bind fun ba=>
 G _ ba true (some (w,σ6)) σ6 fun cc σ7=>
 Gp G ba true (binOp PP .eql 169 cc I1) σ7 fun M σ8=>
 (Qt ba M (DV.p (PV.bool false))).bind fun ck=>
 Qh ck
 (
 (Qd CC lo (DV.fn 131 []) [a,b,c,f] σ8).bind fun r80_9=>
 Qh r80_9.1
 (
 some ((DV.tuple []),r80_9.2)
 )
 (
 f121_J2 G lo a b c d f i j l q w u o z K A B I Y L C x y X P N t J E ak ar az T W aa b9 be bp av bc bb bh bm bi bj bu bg bf i i br ba ba cc M ck a b c f r80_9.1 r80_9.2
 )
 )
 (
 f121_J2 G lo a b c d f i j l q w u o z K A B I Y L C x y X P N t J E ak ar az T W aa b9 be bp av bc bb bh bm bi bj bu bg bf i i br ba ba cc M ck Z Z Z Z Z σ8
 ):=by kernel_rfl
theorem f121_J2_eq (G:Qe) (lo:Nat) (a b c d f i j l q w u o z K A B I Y L C x y X P N t J E ak ar az T W aa b9 be bp av bc bb bh bm bi bj bu bg bf cm dc br ba cz cc M ck ca bq bz bv c7:DV) (σ:Qa):f121_J2 G lo a b c d f i j l q w u o z K A B I Y L C x y X P N t J E ak ar az T W aa b9 be bp av bc bb bh bm bi bj bu bg bf cm dc br ba cz cc M ck ca bq bz bv c7 σ =
 (binOp PP .gtr 3 b I0).bind fun n=>
 G _ n true (some (f,σ)) σ fun bk σ10=>
 G _ n true (some (a,σ10)) σ10 fun bt σ11=>
 G _ n true (some (b,σ11)) σ11 fun bn σ12=>
 Gp G n true (binOp PP .sub 3 bn I1) σ12 fun bw σ13=>
 Gp G n true (indexAddr PP 134 bt bw) σ13 fun cn σ14=>
 Gp G n true (load PP 102 cn σ14) σ14 fun ch σ15=>
 G _ n true (some (a,σ15)) σ15 fun co σ16=>
 G _ n true (some (q,σ16)) σ16 fun ct σ17=>
 Gp G n true (indexAddr PP 134 co ct) σ17 fun ci σ18=>
 Gp G n true (load PP 102 ci σ18) σ18 fun ce σ19=>
 Gp G n true (Qg CC bk [ch,ce] σ19) σ19 fun cb σ20=>
 Gp G n true (binOp PP .lss 3 cb I0) σ20 fun cj σ21=>
 Gp G n true (unOp .not cj) σ21 fun c8 σ22=>
 (Qt n c8 (DV.p (PV.bool false))).bind fun cd=>
 Qh cd
 (
 (Qd CC lo (DV.fn 132 []) [a,b,c,q,f] σ22).bind fun r103_23=>
 f121_L0 G lo a r103_23.1 c d f i j r103_23.2
 )
 (
 (Qd CC lo (DV.fn 133 []) [a,b,c,q,f] σ22).bind fun r111_24=>
 (Qj r111_24.1 0).bind fun am=>
 (Qj r111_24.1 1).bind fun c9=>
 (binOp PP .sub 3 am b).bind fun cp=>
 (binOp PP .sub 3 c am).bind fun cg=>
 (binOp PP .quo 3 l (DV.p (PV.int IntKind.i64 (8)))).bind fun cq=>
 (binOp PP .lss 3 cp cg).bind fun cu=>
 Qh cu
 (
 (binOp PP .geq 3 cp cq).bind fun db=>
 (Qd CC lo (DV.fn 121 []) [a,b,am,d,f] r111_24.2).bind fun r134_25=>
 (binOp PP .add 3 am I1).bind fun dg=>
 f121_L0 G lo a dg c d f db c9 r134_25.2
 )
 (
 (binOp PP .geq 3 cg cq).bind fun da=>
 (binOp PP .add 3 am I1).bind fun dp=>
 (Qd CC lo (DV.fn 121 []) [a,dp,c,d,f] r111_24.2).bind fun r146_26=>
 f121_L0 G lo a b am d f da c9 r146_26.2
 )
 ):=by kernel_rfl
theorem f121_L0_eqN (G:Qe) (hG:Qo G) (lo:Nat) (a b c d f i j:DV) (σ:Qa):f121_L0 G lo a b c d f i j σ =
 (binOp PP .sub 3 c b).bind fun z=>
 (binOp PP .leq 3 z (DV.p (PV.int IntKind.i64 (12)))).bind fun A=>
 Qh A
 (
 (Qd CC lo (DV.fn 126 []) [a,b,c,f] σ).bind fun r30_1=>
 some ((DV.tuple []),r30_1.2)
 )
 (
 (binOp PP .eql 3 d I0).bind fun I=>
 Qh I
 (
 (Qd CC lo (DV.fn 127 []) [a,b,c,f] σ).bind fun r37_2=>
 some ((DV.tuple []),r37_2.2)
 )
 (
 (unOp .not i).bind fun L=>
 Qh L
 (
 (Qd CC lo (DV.fn 128 []) [a,b,c,f] σ).bind fun r44_3=>
 (binOp PP .sub 3 d I1).bind fun t=>
 (Qd CC lo (DV.fn 129 []) [a,b,c,f] r44_3.2).bind fun r52_4=>
 (Qj r52_4.1 0).bind fun W=>
 (Qj r52_4.1 1).bind fun aa=>
 (binOp PP .eql 169 aa (DV.p (PV.int IntKind.i64 (2)))).bind fun be=>
 Qh be
 (
 (Qd CC lo (DV.fn 130 []) [a,b,c,f] r52_4.2).bind fun r61_5=>
 (binOp PP .sub 3 c I1).bind fun bi=>
 (binOp PP .sub 3 W b).bind fun bg=>
 (binOp PP .sub 3 bi bg).bind fun bf=>
 G _ i true (some (j,r61_5.2)) r61_5.2 fun br σ6=>
 (Qt i br (DV.p (PV.bool false))).bind fun ba=>
 G _ ba true (some (I1,σ6)) σ6 fun cc σ7=>
 Gp G ba true (binOp PP .eql 169 cc I1) σ7 fun M σ8=>
 (Qt ba M (DV.p (PV.bool false))).bind fun ck=>
 Qh ck
 (
 (Qd CC lo (DV.fn 131 []) [a,b,c,f] σ8).bind fun r80_9=>
 Qh r80_9.1
 (
 some ((DV.tuple []),r80_9.2)
 )
 (
 (binOp PP .gtr 3 b I0).bind fun n=>
 G _ n true (some (f,r80_9.2)) r80_9.2 fun bk σ10=>
 G _ n true (some (a,σ10)) σ10 fun bt σ11=>
 G _ n true (some (b,σ11)) σ11 fun bn σ12=>
 Gp G n true (binOp PP .sub 3 bn I1) σ12 fun bw σ13=>
 Gp G n true (indexAddr PP 134 bt bw) σ13 fun cn σ14=>
 Gp G n true (load PP 102 cn σ14) σ14 fun ch σ15=>
 G _ n true (some (a,σ15)) σ15 fun co σ16=>
 G _ n true (some (bf,σ16)) σ16 fun ct σ17=>
 Gp G n true (indexAddr PP 134 co ct) σ17 fun ci σ18=>
 Gp G n true (load PP 102 ci σ18) σ18 fun ce σ19=>
 Gp G n true (Qg CC bk [ch,ce] σ19) σ19 fun cb σ20=>
 Gp G n true (binOp PP .lss 3 cb I0) σ20 fun cj σ21=>
 Gp G n true (unOp .not cj) σ21 fun c8 σ22=>
 (Qt n c8 (DV.p (PV.bool false))).bind fun cd=>
 Qh cd
 (
 (Qd CC lo (DV.fn 132 []) [a,b,c,bf,f] σ22).bind fun r103_23=>
 f121_L0 G lo a r103_23.1 c t f i j r103_23.2
 )
 (
 (Qd CC lo (DV.fn 133 []) [a,b,c,bf,f] σ22).bind fun r111_24=>
 (Qj r111_24.1 0).bind fun am=>
 (Qj r111_24.1 1).bind fun c9=>
 (binOp PP .sub 3 am b).bind fun cp=>
 (binOp PP .sub 3 c am).bind fun cg=>
 (binOp PP .quo 3 z (DV.p (PV.int IntKind.i64 (8)))).bind fun cq=>
 (binOp PP .lss 3 cp cg).bind fun cu=>
 Qh cu
 (
 (binOp PP .geq 3 cp cq).bind fun db=>
 (Qd CC lo (DV.fn 121 []) [a,b,am,t,f] r111_24.2).bind fun r134_25=>
 (binOp PP .add 3 am I1).bind fun dg=>
 f121_L0 G lo a dg c t f db c9 r134_25.2
 )
 (
 (binOp PP .geq 3 cg cq).bind fun da=>
 (binOp PP .add 3 am I1).bind fun dp=>
 (Qd CC lo (DV.fn 121 []) [a,dp,c,t,f] r111_24.2).bind fun r146_26=>
 f121_L0 G lo a b am t f da c9 r146_26.2
 )
 )
 )
 )
 (
 (binOp PP .gtr 3 b I0).bind fun n=>
 G _ n true (some (f,σ8)) σ8 fun bk σ27=>
 G _ n true (some (a,σ27)) σ27 fun bt σ28=>
 G _ n true (some (b,σ28)) σ28 fun bn σ29=>
 Gp G n true (binOp PP .sub 3 bn I1) σ29 fun bw σ30=>
 Gp G n true (indexAddr PP 134 bt bw) σ30 fun cn σ31=>
 Gp G n true (load PP 102 cn σ31) σ31 fun ch σ32=>
 G _ n true (some (a,σ32)) σ32 fun co σ33=>
 G _ n true (some (bf,σ33)) σ33 fun ct σ34=>
 Gp G n true (indexAddr PP 134 co ct) σ34 fun ci σ35=>
 Gp G n true (load PP 102 ci σ35) σ35 fun ce σ36=>
 Gp G n true (Qg CC bk [ch,ce] σ36) σ36 fun cb σ37=>
 Gp G n true (binOp PP .lss 3 cb I0) σ37 fun cj σ38=>
 Gp G n true (unOp .not cj) σ38 fun c8 σ39=>
 (Qt n c8 (DV.p (PV.bool false))).bind fun cd=>
 Qh cd
 (
 (Qd CC lo (DV.fn 132 []) [a,b,c,bf,f] σ39).bind fun r103_40=>
 f121_L0 G lo a r103_40.1 c t f i j r103_40.2
 )
 (
 (Qd CC lo (DV.fn 133 []) [a,b,c,bf,f] σ39).bind fun r111_41=>
 (Qj r111_41.1 0).bind fun am=>
 (Qj r111_41.1 1).bind fun c9=>
 (binOp PP .sub 3 am b).bind fun cp=>
 (binOp PP .sub 3 c am).bind fun cg=>
 (binOp PP .quo 3 z (DV.p (PV.int IntKind.i64 (8)))).bind fun cq=>
 (binOp PP .lss 3 cp cg).bind fun cu=>
 Qh cu
 (
 (binOp PP .geq 3 cp cq).bind fun db=>
 (Qd CC lo (DV.fn 121 []) [a,b,am,t,f] r111_41.2).bind fun r134_42=>
 (binOp PP .add 3 am I1).bind fun dg=>
 f121_L0 G lo a dg c t f db c9 r134_42.2
 )
 (
 (binOp PP .geq 3 cg cq).bind fun da=>
 (binOp PP .add 3 am I1).bind fun dp=>
 (Qd CC lo (DV.fn 121 []) [a,dp,c,t,f] r111_41.2).bind fun r146_43=>
 f121_L0 G lo a b am t f da c9 r146_43.2
 )
 )
 )
 )
 (
 G _ i true (some (j,r52_4.2)) r52_4.2 fun br σ44=>
 (Qt i br (DV.p (PV.bool false))).bind fun ba=>
 G _ ba true (some (aa,σ44)) σ44 fun cc σ45=>
 Gp G ba true (binOp PP .eql 169 cc I1) σ45 fun M σ46=>
 (Qt ba M (DV.p (PV.bool false))).bind fun ck=>
 Qh ck
 (
 (Qd CC lo (DV.fn 131 []) [a,b,c,f] σ46).bind fun r80_47=>
 Qh r80_47.1
 (
 some ((DV.tuple []),r80_47.2)
 )
 (
 (binOp PP .gtr 3 b I0).bind fun n=>
 G _ n true (some (f,r80_47.2)) r80_47.2 fun bk σ48=>
 G _ n true (some (a,σ48)) σ48 fun bt σ49=>
 G _ n true (some (b,σ49)) σ49 fun bn σ50=>
 Gp G n true (binOp PP .sub 3 bn I1) σ50 fun bw σ51=>
 Gp G n true (indexAddr PP 134 bt bw) σ51 fun cn σ52=>
 Gp G n true (load PP 102 cn σ52) σ52 fun ch σ53=>
 G _ n true (some (a,σ53)) σ53 fun co σ54=>
 G _ n true (some (W,σ54)) σ54 fun ct σ55=>
 Gp G n true (indexAddr PP 134 co ct) σ55 fun ci σ56=>
 Gp G n true (load PP 102 ci σ56) σ56 fun ce σ57=>
 Gp G n true (Qg CC bk [ch,ce] σ57) σ57 fun cb σ58=>
 Gp G n true (binOp PP .lss 3 cb I0) σ58 fun cj σ59=>
 Gp G n true (unOp .not cj) σ59 fun c8 σ60=>
 (Qt n c8 (DV.p (PV.bool false))).bind fun cd=>
 Qh cd
 (
 (Qd CC lo (DV.fn 132 []) [a,b,c,W,f] σ60).bind fun r103_61=>
 f121_L0 G lo a r103_61.1 c t f i j r103_61.2
 )
 (
 (Qd CC lo (DV.fn 133 []) [a,b,c,W,f] σ60).bind fun r111_62=>
 (Qj r111_62.1 0).bind fun am=>
 (Qj r111_62.1 1).bind fun c9=>
 (binOp PP .sub 3 am b).bind fun cp=>
 (binOp PP .sub 3 c am).bind fun cg=>
 (binOp PP .quo 3 z (DV.p (PV.int IntKind.i64 (8)))).bind fun cq=>
 (binOp PP .lss 3 cp cg).bind fun cu=>
 Qh cu
 (
 (binOp PP .geq 3 cp cq).bind fun db=>
 (Qd CC lo (DV.fn 121 []) [a,b,am,t,f] r111_62.2).bind fun r134_63=>
 (binOp PP .add 3 am I1).bind fun dg=>
 f121_L0 G lo a dg c t f db c9 r134_63.2
 )
 (
 (binOp PP .geq 3 cg cq).bind fun da=>
 (binOp PP .add 3 am I1).bind fun dp=>
 (Qd CC lo (DV.fn 121 []) [a,dp,c,t,f] r111_62.2).bind fun r146_64=>
 f121_L0 G lo a b am t f da c9 r146_64.2
 )
 )
 )
 )
 (
 (binOp PP .gtr 3 b I0).bind fun n=>
 G _ n true (some (f,σ46)) σ46 fun bk σ65=>
 G _ n true (some (a,σ65)) σ65 fun bt σ66=>
 G _ n true (some (b,σ66)) σ66 fun bn σ67=>
 Gp G n true (binOp PP .sub 3 bn I1) σ67 fun bw σ68=>
 Gp G n true (indexAddr PP 134 bt bw) σ68 fun cn σ69=>
 Gp G n true (load PP 102 cn σ69) σ69 fun ch σ70=>
 G _ n true (some (a,σ70)) σ70 fun co σ71=>
 G _ n true (some (W,σ71)) σ71 fun ct σ72=>
 Gp G n true (indexAddr PP 134 co ct) σ72 fun ci σ73=>
 Gp G n true (load PP 102 ci σ73) σ73 fun ce σ74=>
 Gp G n true (Qg CC bk [ch,ce] σ74) σ74 fun cb σ75=>
 Gp G n true (binOp PP .lss 3 cb I0) σ75 fun cj σ76=>
 Gp G n true (unOp .not cj) σ76 fun c8 σ77=>
 (Qt n c8 (DV.p (PV.bool false))).bind fun cd=>
 Qh cd
 (
 (Qd CC lo (DV.fn 132 []) [a,b,c,W,f] σ77).bind fun r103_78=>
 f121_L0 G lo a r103_78.1 c t f i j r103_78.2
 )
 (
 (Qd CC lo (DV.fn 133 []) [a,b,c,W,f] σ77).bind fun r111_79=>
 (Qj r111_79.1 0).bind fun am=>
 (Qj r111_79.1 1).bind fun c9=>
 (binOp PP .sub 3 am b).bind fun cp=>
 (binOp PP .sub 3 c am).bind fun cg=>
 (binOp PP .quo 3 z (DV.p (PV.int IntKind.i64 (8)))).bind fun cq=>
 (binOp PP .lss 3 cp cg).bind fun cu=>
 Qh cu
 (
 (binOp PP .geq 3 cp cq).bind fun db=>
 (Qd CC lo (DV.fn 121 []) [a,b,am,t,f] r111_79.2).bind fun r134_80=>
 (binOp PP .add 3 am I1).bind fun dg=>
 f121_L0 G lo a dg c t f db c9 r134_80.2
 )
 (
 (binOp PP .geq 3 cg cq).bind fun da=>
 (binOp PP .add 3 am I1).bind fun dp=>
 (Qd CC lo (DV.fn 121 []) [a,dp,c,t,f] r111_79.2).bind fun r146_81=>
 f121_L0 G lo a b am t f da c9 r146_81.2
 )
 )
 )
 )
 )
 (
 (Qd CC lo (DV.fn 129 []) [a,b,c,f] σ).bind fun r52_82=>
 (Qj r52_82.1 0).bind fun W=>
 (Qj r52_82.1 1).bind fun aa=>
 (binOp PP .eql 169 aa (DV.p (PV.int IntKind.i64 (2)))).bind fun be=>
 Qh be
 (
 (Qd CC lo (DV.fn 130 []) [a,b,c,f] r52_82.2).bind fun r61_83=>
 (binOp PP .sub 3 c I1).bind fun bi=>
 (binOp PP .sub 3 W b).bind fun bg=>
 (binOp PP .sub 3 bi bg).bind fun bf=>
 G _ i true (some (j,r61_83.2)) r61_83.2 fun br σ84=>
 (Qt i br (DV.p (PV.bool false))).bind fun ba=>
 G _ ba true (some (I1,σ84)) σ84 fun cc σ85=>
 Gp G ba true (binOp PP .eql 169 cc I1) σ85 fun M σ86=>
 (Qt ba M (DV.p (PV.bool false))).bind fun ck=>
 Qh ck
 (
 (Qd CC lo (DV.fn 131 []) [a,b,c,f] σ86).bind fun r80_87=>
 Qh r80_87.1
 (
 some ((DV.tuple []),r80_87.2)
 )
 (
 (binOp PP .gtr 3 b I0).bind fun n=>
 G _ n true (some (f,r80_87.2)) r80_87.2 fun bk σ88=>
 G _ n true (some (a,σ88)) σ88 fun bt σ89=>
 G _ n true (some (b,σ89)) σ89 fun bn σ90=>
 Gp G n true (binOp PP .sub 3 bn I1) σ90 fun bw σ91=>
 Gp G n true (indexAddr PP 134 bt bw) σ91 fun cn σ92=>
 Gp G n true (load PP 102 cn σ92) σ92 fun ch σ93=>
 G _ n true (some (a,σ93)) σ93 fun co σ94=>
 G _ n true (some (bf,σ94)) σ94 fun ct σ95=>
 Gp G n true (indexAddr PP 134 co ct) σ95 fun ci σ96=>
 Gp G n true (load PP 102 ci σ96) σ96 fun ce σ97=>
 Gp G n true (Qg CC bk [ch,ce] σ97) σ97 fun cb σ98=>
 Gp G n true (binOp PP .lss 3 cb I0) σ98 fun cj σ99=>
 Gp G n true (unOp .not cj) σ99 fun c8 σ100=>
 (Qt n c8 (DV.p (PV.bool false))).bind fun cd=>
 Qh cd
 (
 (Qd CC lo (DV.fn 132 []) [a,b,c,bf,f] σ100).bind fun r103_101=>
 f121_L0 G lo a r103_101.1 c d f i j r103_101.2
 )
 (
 (Qd CC lo (DV.fn 133 []) [a,b,c,bf,f] σ100).bind fun r111_102=>
 (Qj r111_102.1 0).bind fun am=>
 (Qj r111_102.1 1).bind fun c9=>
 (binOp PP .sub 3 am b).bind fun cp=>
 (binOp PP .sub 3 c am).bind fun cg=>
 (binOp PP .quo 3 z (DV.p (PV.int IntKind.i64 (8)))).bind fun cq=>
 (binOp PP .lss 3 cp cg).bind fun cu=>
 Qh cu
 (
 (binOp PP .geq 3 cp cq).bind fun db=>
 (Qd CC lo (DV.fn 121 []) [a,b,am,d,f] r111_102.2).bind fun r134_103=>
 (binOp PP .add 3 am I1).bind fun dg=>
 f121_L0 G lo a dg c d f db c9 r134_103.2
 )
 (
 (binOp PP .geq 3 cg cq).bind fun da=>
 (binOp PP .add 3 am I1).bind fun dp=>
 (Qd CC lo (DV.fn 121 []) [a,dp,c,d,f] r111_102.2).bind fun r146_104=>
 f121_L0 G lo a b am d f da c9 r146_104.2
 )
 )
 )
 )
 (
 (binOp PP .gtr 3 b I0).bind fun n=>
 G _ n true (some (f,σ86)) σ86 fun bk σ105=>
 G _ n true (some (a,σ105)) σ105 fun bt σ106=>
 G _ n true (some (b,σ106)) σ106 fun bn σ107=>
 Gp G n true (binOp PP .sub 3 bn I1) σ107 fun bw σ108=>
 Gp G n true (indexAddr PP 134 bt bw) σ108 fun cn σ109=>
 Gp G n true (load PP 102 cn σ109) σ109 fun ch σ110=>
 G _ n true (some (a,σ110)) σ110 fun co σ111=>
 G _ n true (some (bf,σ111)) σ111 fun ct σ112=>
 Gp G n true (indexAddr PP 134 co ct) σ112 fun ci σ113=>
 Gp G n true (load PP 102 ci σ113) σ113 fun ce σ114=>
 Gp G n true (Qg CC bk [ch,ce] σ114) σ114 fun cb σ115=>
 Gp G n true (binOp PP .lss 3 cb I0) σ115 fun cj σ116=>
 Gp G n true (unOp .not cj) σ116 fun c8 σ117=>
 (Qt n c8 (DV.p (PV.bool false))).bind fun cd=>
 Qh cd
 (
 (Qd CC lo (DV.fn 132 []) [a,b,c,bf,f] σ117).bind fun r103_118=>
 f121_L0 G lo a r103_118.1 c d f i j r103_118.2
 )
 (
 (Qd CC lo (DV.fn 133 []) [a,b,c,bf,f] σ117).bind fun r111_119=>
 (Qj r111_119.1 0).bind fun am=>
 (Qj r111_119.1 1).bind fun c9=>
 (binOp PP .sub 3 am b).bind fun cp=>
 (binOp PP .sub 3 c am).bind fun cg=>
 (binOp PP .quo 3 z (DV.p (PV.int IntKind.i64 (8)))).bind fun cq=>
 (binOp PP .lss 3 cp cg).bind fun cu=>
 Qh cu
 (
 (binOp PP .geq 3 cp cq).bind fun db=>
 (Qd CC lo (DV.fn 121 []) [a,b,am,d,f] r111_119.2).bind fun r134_120=>
 (binOp PP .add 3 am I1).bind fun dg=>
 f121_L0 G lo a dg c d f db c9 r134_120.2
 )
 (
 (binOp PP .geq 3 cg cq).bind fun da=>
 (binOp PP .add 3 am I1).bind fun dp=>
 (Qd CC lo (DV.fn 121 []) [a,dp,c,d,f] r111_119.2).bind fun r146_121=>
 f121_L0 G lo a b am d f da c9 r146_121.2
 )
 )
 )
 )
 (
 G _ i true (some (j,r52_82.2)) r52_82.2 fun br σ122=>
 (Qt i br (DV.p (PV.bool false))).bind fun ba=>
 G _ ba true (some (aa,σ122)) σ122 fun cc σ123=>
 Gp G ba true (binOp PP .eql 169 cc I1) σ123 fun M σ124=>
 (Qt ba M (DV.p (PV.bool false))).bind fun ck=>
 Qh ck
 (
 (Qd CC lo (DV.fn 131 []) [a,b,c,f] σ124).bind fun r80_125=>
 Qh r80_125.1
 (
 some ((DV.tuple []),r80_125.2)
 )
 (
 (binOp PP .gtr 3 b I0).bind fun n=>
 G _ n true (some (f,r80_125.2)) r80_125.2 fun bk σ126=>
 G _ n true (some (a,σ126)) σ126 fun bt σ127=>
 G _ n true (some (b,σ127)) σ127 fun bn σ128=>
 Gp G n true (binOp PP .sub 3 bn I1) σ128 fun bw σ129=>
 Gp G n true (indexAddr PP 134 bt bw) σ129 fun cn σ130=>
 Gp G n true (load PP 102 cn σ130) σ130 fun ch σ131=>
 G _ n true (some (a,σ131)) σ131 fun co σ132=>
 G _ n true (some (W,σ132)) σ132 fun ct σ133=>
 Gp G n true (indexAddr PP 134 co ct) σ133 fun ci σ134=>
 Gp G n true (load PP 102 ci σ134) σ134 fun ce σ135=>
 Gp G n true (Qg CC bk [ch,ce] σ135) σ135 fun cb σ136=>
 Gp G n true (binOp PP .lss 3 cb I0) σ136 fun cj σ137=>
 Gp G n true (unOp .not cj) σ137 fun c8 σ138=>
 (Qt n c8 (DV.p (PV.bool false))).bind fun cd=>
 Qh cd
 (
 (Qd CC lo (DV.fn 132 []) [a,b,c,W,f] σ138).bind fun r103_139=>
 f121_L0 G lo a r103_139.1 c d f i j r103_139.2
 )
 (
 (Qd CC lo (DV.fn 133 []) [a,b,c,W,f] σ138).bind fun r111_140=>
 (Qj r111_140.1 0).bind fun am=>
 (Qj r111_140.1 1).bind fun c9=>
 (binOp PP .sub 3 am b).bind fun cp=>
 (binOp PP .sub 3 c am).bind fun cg=>
 (binOp PP .quo 3 z (DV.p (PV.int IntKind.i64 (8)))).bind fun cq=>
 (binOp PP .lss 3 cp cg).bind fun cu=>
 Qh cu
 (
 (binOp PP .geq 3 cp cq).bind fun db=>
 (Qd CC lo (DV.fn 121 []) [a,b,am,d,f] r111_140.2).bind fun r134_141=>
 (binOp PP .add 3 am I1).bind fun dg=>
 f121_L0 G lo a dg c d f db c9 r134_141.2
 )
 (
 (binOp PP .geq 3 cg cq).bind fun da=>
 (binOp PP .add 3 am I1).bind fun dp=>
 (Qd CC lo (DV.fn 121 []) [a,dp,c,d,f] r111_140.2).bind fun r146_142=>
 f121_L0 G lo a b am d f da c9 r146_142.2
 )
 )
 )
 )
 (
 (binOp PP .gtr 3 b I0).bind fun n=>
 G _ n true (some (f,σ124)) σ124 fun bk σ143=>
 G _ n true (some (a,σ143)) σ143 fun bt σ144=>
 G _ n true (some (b,σ144)) σ144 fun bn σ145=>
 Gp G n true (binOp PP .sub 3 bn I1) σ145 fun bw σ146=>
 Gp G n true (indexAddr PP 134 bt bw) σ146 fun cn σ147=>
 Gp G n true (load PP 102 cn σ147) σ147 fun ch σ148=>
 G _ n true (some (a,σ148)) σ148 fun co σ149=>
 G _ n true (some (W,σ149)) σ149 fun ct σ150=>
 Gp G n true (indexAddr PP 134 co ct) σ150 fun ci σ151=>
 Gp G n true (load PP 102 ci σ151) σ151 fun ce σ152=>
 Gp G n true (Qg CC bk [ch,ce] σ152) σ152 fun cb σ153=>
 Gp G n true (binOp PP .lss 3 cb I0) σ153 fun cj σ154=>
 Gp G n true (unOp .not cj) σ154 fun c8 σ155=>
 (Qt n c8 (DV.p (PV.bool false))).bind fun cd=>
 Qh cd
 (
 (Qd CC lo (DV.fn 132 []) [a,b,c,W,f] σ155).bind fun r103_156=>
 f121_L0 G lo a r103_156.1 c d f i j r103_156.2
 )
 (
 (Qd CC lo (DV.fn 133 []) [a,b,c,W,f] σ155).bind fun r111_157=>
 (Qj r111_157.1 0).bind fun am=>
 (Qj r111_157.1 1).bind fun c9=>
 (binOp PP .sub 3 am b).bind fun cp=>
 (binOp PP .sub 3 c am).bind fun cg=>
 (binOp PP .quo 3 z (DV.p (PV.int IntKind.i64 (8)))).bind fun cq=>
 (binOp PP .lss 3 cp cg).bind fun cu=>
 Qh cu
 (
 (binOp PP .geq 3 cp cq).bind fun db=>
 (Qd CC lo (DV.fn 121 []) [a,b,am,d,f] r111_157.2).bind fun r134_158=>
 (binOp PP .add 3 am I1).bind fun dg=>
 f121_L0 G lo a dg c d f db c9 r134_158.2
 )
 (
 (binOp PP .geq 3 cg cq).bind fun da=>
 (binOp PP .add 3 am I1).bind fun dp=>
 (Qd CC lo (DV.fn 121 []) [a,dp,c,d,f] r111_157.2).bind fun r146_159=>
 f121_L0 G lo a b am d f da c9 r146_159.2
 )
 )
 )
 )
 )
 )
 ):=(Ql G hG).trans (by kernel_rfl)
theorem f121_L0_eq (G:Qe) (hG:Qo G) (lo:Nat) (a b c d f i j:DV) (σ:Qa):f121_L0 G lo a b c d f i j σ =
 (binOp PP .sub 3 c b).bind fun z=>
 (binOp PP .leq 3 z (DV.p (PV.int IntKind.i64 (12)))).bind fun A=>
 Qh A
 (
 (Qd CC lo (DV.fn 126 []) [a,b,c,f] σ).bind fun r30_1=>
 some ((DV.tuple []),r30_1.2)
 )
 (
 (binOp PP .eql 3 d I0).bind fun I=>
 Qh I
 (
 (Qd CC lo (DV.fn 127 []) [a,b,c,f] σ).bind fun r37_2=>
 some ((DV.tuple []),r37_2.2)
 )
 (
 (unOp .not i).bind fun L=>
 Qh L
 (
 (Qd CC lo (DV.fn 128 []) [a,b,c,f] σ).bind fun r44_3=>
 (binOp PP .sub 3 d I1).bind fun t=>
 f121_J0 G lo a b c t f i j z c b z z A d I i L a b c f r44_3.1 d t r44_3.2
 )
 (
 f121_J0 G lo a b c d f i j z c b z z A d I i L Z Z Z Z Z Z Z σ
 )
 )
 ):=(f121_L0_eqN G hG lo a b c d f i j σ).trans (by simp only [f121_J0_eq,f121_J1_eq,f121_J2_eq])
theorem F121_eq (G:Qe) (lo:Nat) (a b c d f:DV) (σ:Qa):F121 G lo a b c d f σ =
 f121_L0 G lo a b c d f (DV.p (PV.bool true)) (DV.p (PV.bool true)) σ:=by kernel_rfl
theorem F121_call {lo:Nat} {a b c d f:DV} (h:F121 Qb lo a b c d f σ=some r):CC lo 121 [a,b,c,d,f] σ=some r:=
 callL_run Tryz.func121 (by decide +kernel) rfl (by decide +kernel) h
def c122_0:Code:=Qs Tryz.f122
def a122_0:Ann:=(pol 122).ann
def F122 (a:DV) (σ:Qa):RS:=
 Qm G PP (pol 122) CC lo c122_0 a122_0 (a::zn 7 []) σ (finR PP Tryz.f122.results.toList)
theorem F122_eq (G:Qe) (lo:Nat) (a:DV) (σ:Qa):F122 G lo a σ =
 Qh (DV.p (PV.bool false))
 (
 (convert PP 165 176 a).bind fun f=>
 (Qg CC (DV.fn 134 []) [f] σ).bind fun m=>
 some (m,σ)
 )
 (
 (Qg CC (DV.fn 135 []) [a] σ).bind fun H=>
 some (H,σ)
 ):=by kernel_rfl
theorem F122_call {lo:Nat} {a:DV} (h:F122 Qb lo a σ=some r):CC lo 122 [a] σ=some r:=
 callL_run Tryz.func122 (by decide +kernel) rfl (by decide +kernel) h
def c135_0:Code:=Qs Tryz.f135
def a135_0:Ann:=(pol 135).ann
def c135_10:Code:=sndC (sndC c135_0)
def a135_10:Ann:=right (right a135_0)
def c135_18:Code:=sndC c135_10
def a135_18:Ann:=right a135_10
def c135_26:Code:=sndC c135_18
def a135_26:Ann:=right a135_18
def f135_J0 (a c d f m O:DV) (σ:Qa):RS:=
 (seqC G PP (pol 135) CC lo c135_10 a135_10 (finR PP Tryz.f135.results.toList)) .normal (a::Z::c::d::f::m::O::zn 18 []) σ
def f135_J1 (a c d f m O H k g i j l:DV) (σ:Qa):RS:=
 (seqC G PP (pol 135) CC lo c135_18 a135_18 (finR PP Tryz.f135.results.toList)) .normal (a::Z::c::d::f::m::O::H::k::g::i::j::l::zn 12 []) σ
def f135_J2 (a c d f m O H k g i j l q w F ah R af:DV) (σ:Qa):RS:=
 (seqC G PP (pol 135) CC lo c135_26 a135_26 (finR PP Tryz.f135.results.toList)) .normal (a::Z::c::d::f::m::O::H::k::g::i::j::l::q::w::F::ah::R::af::zn 6 []) σ
def F135 (a:DV) (σ:Qa):RS:=
 Qm G PP (pol 135) CC lo c135_0 a135_0 (a::zn 24 []) σ (finR PP Tryz.f135.results.toList)
theorem f135_J0_eq (G:Qe) (lo:Nat) (a c d f m O:DV) (σ:Qa):f135_J0 G lo a c d f m O σ =
 (binOp PP .geq 178 a (DV.p (PV.int IntKind.u64 (65536)))).bind fun k=>
 Qh k
 (
 (binOp PP .shr 178 a (DV.p (PV.int IntKind.u64 (16)))).bind fun i=>
 (binOp PP .add 3 c (DV.p (PV.int IntKind.i64 (16)))).bind fun l=>
 f135_J1 G lo i l d f m O a k a i c l σ
 )
 (
 f135_J1 G lo a c d f m O a k Z Z Z Z σ
 ):=by kernel_rfl
theorem f135_J1_eq (G:Qe) (lo:Nat) (a c d f m O H k g i j l:DV) (σ:Qa):f135_J1 G lo a c d f m O H k g i j l σ =
 (binOp PP .geq 178 a (DV.p (PV.int IntKind.u64 (256)))).bind fun w=>
 Qh w
 (
 (binOp PP .shr 178 a (DV.p (PV.int IntKind.u64 (8)))).bind fun ah=>
 (binOp PP .add 3 c (DV.p (PV.int IntKind.i64 (8)))).bind fun af=>
 f135_J2 G lo ah af d f m O H k g i j l a w a ah c af σ
 )
 (
 f135_J2 G lo a c d f m O H k g i j l a w Z Z Z Z σ
 ):=by kernel_rfl
theorem f135_J2_eq (G:Qe) (lo:Nat) (a c d f m O H k g i j l q w F ah R af:DV) (σ:Qa):f135_J2 G lo a c d f m O H k g i j l q w F ah R af σ =
 (convert PP 178 5 a).bind fun u=>
 (index PP 9 (DV.p (PV.str UJ)) u).bind fun o=>
 (convert PP 5 3 o).bind fun z=>
 (binOp PP .add 3 c z).bind fun K=>
 some (K,σ):=by kernel_rfl
theorem F135_eq (G:Qe) (lo:Nat) (a:DV) (σ:Qa):F135 G lo a σ =
 (binOp PP .geq 178 a (DV.p (PV.int IntKind.u64 (4294967296)))).bind fun f=>
 Qh f
 (
 (binOp PP .shr 178 a (DV.p (PV.int IntKind.u64 (32)))).bind fun O=>
 f135_J0 G lo O (DV.p (PV.int IntKind.i64 (32))) a f a O σ
 )
 (
 f135_J0 G lo a I0 a f Z Z σ
 ):=by kernel_rfl
theorem F135_call {lo:Nat} {a:DV} (h:F135 Qb lo a σ=some r):CC lo 135 [a] σ=some r:=
 callL_run Tryz.func135 (by decide +kernel) rfl (by decide +kernel) h
def c126_0:Code:=Qs Tryz.f126
def a126_0:Ann:=(pol 126).ann
def a126_2:Ann:=right a126_0
def a126_3:Ann:=left a126_2
def c126_4:Code:=fstC (fstC (sndC c126_0))
def a126_11:Ann:=left (right (left a126_3))
def a126_14:Ann:=right (left a126_11)
def a126_15:Ann:=left a126_14
def c126_16:Code:=fstC (fstC (sndC (fstC (fstC (sndC c126_4)))))
def c126_26:Code:=sndC (sndC c126_4)
def a126_26:Ann:=right (right (left a126_3))
def f126_L0 (a b c d k:DV) (σ:Qa):RS:=
 Qm G PP (pol 126) CC lo (.loop c126_4) a126_3 (a::b::c::d::Z::Z::Z::Z::k::zn 44 []) σ
 (Qf 0 a126_2 (finR PP Tryz.f126.results.toList))
def f126_L1 (a b c d k g:DV) (σ:Qa):RS:=
 Qm G PP (pol 126) CC lo (.loop c126_16) a126_15 (a::b::c::d::Z::Z::Z::Z::k::g::zn 43 []) σ
 (Qf 2 a126_14 (Qf 1 a126_11 (seqC G PP (pol 126) CC lo c126_26 a126_26 (QN G PP (pol 126) CC lo c126_4 a126_3 (Qf 0 a126_2 (finR PP Tryz.f126.results.toList))))))
def F126 (a b c d:DV) (σ:Qa):RS:=
 Qm G PP (pol 126) CC lo c126_0 a126_0 (a::b::c::d::zn 49 []) σ (finR PP Tryz.f126.results.toList)
theorem f126_L0_eq (G:Qe) (hG:Qo G) (lo:Nat) (a b c d k:DV) (σ:Qa):f126_L0 G lo a b c d k σ =
 (binOp PP .lss 3 k c).bind fun w=>
 Qh w
 (
 f126_L1 G lo a b c d k k σ
 )
 (
 some ((DV.tuple []),σ)
 ):=(Ql G hG).trans (by kernel_rfl)
theorem f126_L1_eq (G:Qe) (hG:Qo G) (lo:Nat) (a b c d k g:DV) (σ:Qa):f126_L1 G lo a b c d k g σ =
 (binOp PP .gtr 3 g b).bind fun Q=>
 G _ Q true (some (d,σ)) σ fun o σ1=>
 G _ Q true (some (a,σ1)) σ1 fun z σ2=>
 G _ Q true (some (g,σ2)) σ2 fun K σ3=>
 Gp G Q true (indexAddr PP 134 z K) σ3 fun A σ4=>
 Gp G Q true (load PP 102 A σ4) σ4 fun ac σ5=>
 G _ Q true (some (a,σ5)) σ5 fun U σ6=>
 G _ Q true (some (g,σ6)) σ6 fun au σ7=>
 Gp G Q true (binOp PP .sub 3 au I1) σ7 fun S σ8=>
 Gp G Q true (indexAddr PP 134 U S) σ8 fun aw σ9=>
 Gp G Q true (load PP 102 aw σ9) σ9 fun B σ10=>
 Gp G Q true (Qg CC o [ac,B] σ10) σ10 fun I σ11=>
 Gp G Q true (binOp PP .lss 3 I I0) σ11 fun ae σ12=>
 (Qt Q ae (DV.p (PV.bool false))).bind fun V=>
 Qh V
 (
 (binOp PP .sub 3 g I1).bind fun x=>
 (binOp PP .sub 3 g I1).bind fun P=>
 (indexAddr PP 134 a P).bind fun N=>
 (load PP 102 N σ12).bind fun t=>
 (indexAddr PP 134 a g).bind fun ak=>
 (load PP 102 ak σ12).bind fun ar=>
 (indexAddr PP 134 a g).bind fun az=>
 (store PP lo 102 az t σ12).bind fun σ13=>
 (indexAddr PP 134 a x).bind fun T=>
 (store PP lo 102 T ar σ13).bind fun σ14=>
 (binOp PP .sub 3 g I1).bind fun aj=>
 f126_L1 G lo a b c d k aj σ14
 )
 (
 (binOp PP .add 3 k I1).bind fun ah=>
 f126_L0 G lo a b c d ah σ12
 ):=(Ql G hG).trans (by kernel_rfl)
theorem F126_eq (G:Qe) (lo:Nat) (a b c d:DV) (σ:Qa):F126 G lo a b c d σ =
 (binOp PP .add 3 b I1).bind fun j=>
 f126_L0 G lo a b c d j σ:=by kernel_rfl
theorem F126_call {lo:Nat} {a b c d:DV} (h:F126 Qb lo a b c d σ=some r):CC lo 126 [a,b,c,d] σ=some r:=
 callL_run Tryz.func126 (by decide +kernel) rfl (by decide +kernel) h
def c127_0:Code:=Qs Tryz.f127
def a127_0:Ann:=(pol 127).ann
def a127_9:Ann:=right (left (right (right (right a127_0))))
def a127_10:Ann:=left a127_9
def c127_11:Code:=fstC (fstC (sndC (fstC (sndC (sndC (sndC c127_0))))))
def c127_21:Code:=sndC (sndC (sndC (sndC c127_0)))
def a127_21:Ann:=right (right (right (right a127_0)))
def a127_23:Ann:=right a127_21
def a127_24:Ann:=left a127_23
def c127_25:Code:=fstC (fstC (sndC c127_21))
def f127_L0 (a d k g i j:DV) (σ:Qa):RS:=
 Qm G PP (pol 127) CC lo (.loop c127_11) a127_10 (a::Z::Z::d::Z::Z::Z::Z::k::g::i::j::zn 48 []) σ
 (Qf 0 a127_9 (seqC G PP (pol 127) CC lo c127_21 a127_21 (finR PP Tryz.f127.results.toList)))
def f127_L1 (a d k g l:DV) (σ:Qa):RS:=
 Qm G PP (pol 127) CC lo (.loop c127_25) a127_24 (a::Z::Z::d::Z::Z::Z::Z::k::g::Z::Z::l::zn 47 []) σ
 (Qf 2 a127_23 (finR PP Tryz.f127.results.toList))
def F127 (a b c d:DV) (σ:Qa):RS:=
 Qm G PP (pol 127) CC lo c127_0 a127_0 (a::b::c::d::zn 56 []) σ (finR PP Tryz.f127.results.toList)
theorem f127_L0_eq (G:Qe) (hG:Qo G) (lo:Nat) (a d k g i j:DV) (σ:Qa):f127_L0 G lo a d k g i j σ =
 (binOp PP .geq 3 j I0).bind fun u=>
 Qh u
 (
 (Qd CC lo (DV.fn 146 []) [a,j,i,k,d] σ).bind fun r29_1=>
 (binOp PP .sub 3 j I1).bind fun z=>
 f127_L0 G lo a d k g i z r29_1.2
 )
 (
 (binOp PP .sub 3 i I1).bind fun B=>
 f127_L1 G lo a d k g B σ
 ):=(Ql G hG).trans (by kernel_rfl)
theorem f127_L1_eq (G:Qe) (hG:Qo G) (lo:Nat) (a d k g l:DV) (σ:Qa):f127_L1 G lo a d k g l σ =
 (binOp PP .geq 3 l I0).bind fun ae=>
 Qh ae
 (
 (binOp PP .add 3 k l).bind fun x=>
 (binOp PP .add 3 k l).bind fun N=>
 (indexAddr PP 134 a N).bind fun t=>
 (load PP 102 t σ).bind fun J=>
 (indexAddr PP 134 a k).bind fun ar=>
 (load PP 102 ar σ).bind fun az=>
 (indexAddr PP 134 a k).bind fun T=>
 (store PP lo 102 T J σ).bind fun σ2=>
 (indexAddr PP 134 a x).bind fun W=>
 (store PP lo 102 W az σ2).bind fun σ3=>
 (Qd CC lo (DV.fn 146 []) [a,g,l,k,d] σ3).bind fun r59_4=>
 (binOp PP .sub 3 l I1).bind fun ai=>
 f127_L1 G lo a d k g ai r59_4.2
 )
 (
 some ((DV.tuple []),σ)
 ):=(Ql G hG).trans (by kernel_rfl)
theorem F127_eq (G:Qe) (lo:Nat) (a b c d:DV) (σ:Qa):F127 G lo a b c d σ =
 (binOp PP .sub 3 c b).bind fun ah=>
 (binOp PP .sub 3 ah I1).bind fun af=>
 (binOp PP .quo 3 af (DV.p (PV.int IntKind.i64 (2)))).bind fun b8=>
 f127_L0 G lo a d b I0 ah b8 σ:=by kernel_rfl
theorem F127_call {lo:Nat} {a b c d:DV} (h:F127 Qb lo a b c d σ=some r):CC lo 127 [a,b,c,d] σ=some r:=
 callL_run Tryz.func127 (by decide +kernel) rfl (by decide +kernel) h
def c146_0:Code:=Qs Tryz.f146
def a146_0:Ann:=(pol 146).ann
def a146_2:Ann:=right a146_0
def a146_3:Ann:=left a146_2
def c146_4:Code:=fstC (fstC (sndC c146_0))
def a146_4:Ann:=left a146_3
def c146_19:Code:=sndC (sndC (sndC (fstC c146_4)))
def a146_19:Ann:=right (right (right (left a146_4)))
def f146_L0 (a c d f i:DV) (σ:Qa):RS:=
 Qm G PP (pol 146) CC lo (.loop c146_4) a146_3 (a::Z::c::d::f::zn 5 (i::zn 71 [])) σ
 (Qf 0 a146_2 (finR PP Tryz.f146.results.toList))
def f146_J0 (a c d f i j q w F ah R af b8 Q u o z K A ac U au S aw B I ae V ai aj aq Y L C x y:DV) (σ:Qa):RS:=
 (seqC G PP (pol 146) CC lo c146_19 a146_19 (Qf 1 a146_4 (QN G PP (pol 146) CC lo c146_4 a146_3 (Qf 0 a146_2 (finR PP Tryz.f146.results.toList))))) .normal (a::Z::c::d::f::zn 5 (i::j::Z::q::w::F::ah::R::af::b8::Q::u::o::z::K::A::ac::U::au::S::aw::B::I::ae::V::ai::aj::aq::Y::L::C::x::y::zn 39 [])) σ
def F146 (a b c d f:DV) (σ:Qa):RS:=
 Qm G PP (pol 146) CC lo c146_0 a146_0 (a::b::c::d::f::zn 77 []) σ (finR PP Tryz.f146.results.toList)
theorem f146_J0_eq (G:Qe) (lo:Nat) (a c d f i j q w F ah R af b8 Q u o z K A ac U au S aw B I ae V ai aj aq Y L C x y:DV) (σ:Qa):f146_J0 G lo a c d f i j q w F ah R af b8 Q u o z K A ac U au S aw B I ae V ai aj aq Y L C x y σ =
 (binOp PP .add 3 d i).bind fun J=>
 (indexAddr PP 134 a J).bind fun E=>
 (load PP 102 E σ).bind fun ak=>
 (binOp PP .add 3 d j).bind fun W=>
 (indexAddr PP 134 a W).bind fun aa=>
 (load PP 102 aa σ).bind fun b9=>
 (Qg CC f [ak,b9] σ).bind fun be=>
 (binOp PP .lss 3 be I0).bind fun bp=>
 (unOp .not bp).bind fun av=>
 Qh av
 (
 some ((DV.tuple []),σ)
 )
 (
 (binOp PP .add 3 d i).bind fun bm=>
 (binOp PP .add 3 d j).bind fun bg=>
 (binOp PP .add 3 d j).bind fun br=>
 (indexAddr PP 134 a br).bind fun ba=>
 (load PP 102 ba σ).bind fun cz=>
 (binOp PP .add 3 d i).bind fun ca=>
 (indexAddr PP 134 a ca).bind fun bq=>
 (load PP 102 bq σ).bind fun bz=>
 (indexAddr PP 134 a bm).bind fun bv=>
 (store PP lo 102 bv cz σ).bind fun σ17=>
 (indexAddr PP 134 a bg).bind fun c7=>
 (store PP lo 102 c7 bz σ17).bind fun σ18=>
 f146_L0 G lo a c d f j σ18
 ):=by kernel_rfl
theorem f146_L0_eqN (G:Qe) (hG:Qo G) (lo:Nat) (a c d f i:DV) (σ:Qa):f146_L0 G lo a c d f i σ =
 (binOp PP .mul 3 (DV.p (PV.int IntKind.i64 (2))) i).bind fun w=>
 (binOp PP .add 3 w I1).bind fun F=>
 (binOp PP .geq 3 F c).bind fun af=>
 Qh af
 (
 some ((DV.tuple []),σ)
 )
 (
 (binOp PP .add 3 F I1).bind fun Q=>
 (binOp PP .lss 3 Q c).bind fun o=>
 G _ o true (some (f,σ)) σ fun K σ1=>
 G _ o true (some (a,σ1)) σ1 fun A σ2=>
 G _ o true (some (d,σ2)) σ2 fun ac σ3=>
 G _ o true (some (F,σ3)) σ3 fun U σ4=>
 Gp G o true (binOp PP .add 3 ac U) σ4 fun au σ5=>
 Gp G o true (indexAddr PP 134 A au) σ5 fun S σ6=>
 Gp G o true (load PP 102 S σ6) σ6 fun aw σ7=>
 G _ o true (some (a,σ7)) σ7 fun B σ8=>
 G _ o true (some (d,σ8)) σ8 fun I σ9=>
 G _ o true (some (F,σ9)) σ9 fun ae σ10=>
 Gp G o true (binOp PP .add 3 I ae) σ10 fun V σ11=>
 Gp G o true (binOp PP .add 3 V I1) σ11 fun ai σ12=>
 Gp G o true (indexAddr PP 134 B ai) σ12 fun aj σ13=>
 Gp G o true (load PP 102 aj σ13) σ13 fun aq σ14=>
 Gp G o true (Qg CC K [aw,aq] σ14) σ14 fun Y σ15=>
 Gp G o true (binOp PP .lss 3 Y I0) σ15 fun L σ16=>
 (Qt o L (DV.p (PV.bool false))).bind fun C=>
 Qh C
 (
 (binOp PP .add 3 F I1).bind fun y=>
 (binOp PP .add 3 d i).bind fun J=>
 (indexAddr PP 134 a J).bind fun E=>
 (load PP 102 E σ16).bind fun ak=>
 (binOp PP .add 3 d y).bind fun W=>
 (indexAddr PP 134 a W).bind fun aa=>
 (load PP 102 aa σ16).bind fun b9=>
 (Qg CC f [ak,b9] σ16).bind fun be=>
 (binOp PP .lss 3 be I0).bind fun bp=>
 (unOp .not bp).bind fun av=>
 Qh av
 (
 some ((DV.tuple []),σ16)
 )
 (
 (binOp PP .add 3 d i).bind fun bm=>
 (binOp PP .add 3 d y).bind fun bg=>
 (binOp PP .add 3 d y).bind fun br=>
 (indexAddr PP 134 a br).bind fun ba=>
 (load PP 102 ba σ16).bind fun cz=>
 (binOp PP .add 3 d i).bind fun ca=>
 (indexAddr PP 134 a ca).bind fun bq=>
 (load PP 102 bq σ16).bind fun bz=>
 (indexAddr PP 134 a bm).bind fun bv=>
 (store PP lo 102 bv cz σ16).bind fun σ17=>
 (indexAddr PP 134 a bg).bind fun c7=>
 (store PP lo 102 c7 bz σ17).bind fun σ18=>
 f146_L0 G lo a c d f y σ18
 )
 )
 (
 (binOp PP .add 3 d i).bind fun J=>
 (indexAddr PP 134 a J).bind fun E=>
 (load PP 102 E σ16).bind fun ak=>
 (binOp PP .add 3 d F).bind fun W=>
 (indexAddr PP 134 a W).bind fun aa=>
 (load PP 102 aa σ16).bind fun b9=>
 (Qg CC f [ak,b9] σ16).bind fun be=>
 (binOp PP .lss 3 be I0).bind fun bp=>
 (unOp .not bp).bind fun av=>
 Qh av
 (
 some ((DV.tuple []),σ16)
 )
 (
 (binOp PP .add 3 d i).bind fun bm=>
 (binOp PP .add 3 d F).bind fun bg=>
 (binOp PP .add 3 d F).bind fun br=>
 (indexAddr PP 134 a br).bind fun ba=>
 (load PP 102 ba σ16).bind fun cz=>
 (binOp PP .add 3 d i).bind fun ca=>
 (indexAddr PP 134 a ca).bind fun bq=>
 (load PP 102 bq σ16).bind fun bz=>
 (indexAddr PP 134 a bm).bind fun bv=>
 (store PP lo 102 bv cz σ16).bind fun σ19=>
 (indexAddr PP 134 a bg).bind fun c7=>
 (store PP lo 102 c7 bz σ19).bind fun σ20=>
 f146_L0 G lo a c d f F σ20
 )
 )
 ):=(Ql G hG).trans (by kernel_rfl)
theorem f146_L0_eq (G:Qe) (hG:Qo G) (lo:Nat) (a c d f i:DV) (σ:Qa):f146_L0 G lo a c d f i σ =
 (binOp PP .mul 3 (DV.p (PV.int IntKind.i64 (2))) i).bind fun w=>
 (binOp PP .add 3 w I1).bind fun F=>
 (binOp PP .geq 3 F c).bind fun af=>
 Qh af
 (
 some ((DV.tuple []),σ)
 )
 (
 (binOp PP .add 3 F I1).bind fun Q=>
 (binOp PP .lss 3 Q c).bind fun o=>
 G _ o true (some (f,σ)) σ fun K σ1=>
 G _ o true (some (a,σ1)) σ1 fun A σ2=>
 G _ o true (some (d,σ2)) σ2 fun ac σ3=>
 G _ o true (some (F,σ3)) σ3 fun U σ4=>
 Gp G o true (binOp PP .add 3 ac U) σ4 fun au σ5=>
 Gp G o true (indexAddr PP 134 A au) σ5 fun S σ6=>
 Gp G o true (load PP 102 S σ6) σ6 fun aw σ7=>
 G _ o true (some (a,σ7)) σ7 fun B σ8=>
 G _ o true (some (d,σ8)) σ8 fun I σ9=>
 G _ o true (some (F,σ9)) σ9 fun ae σ10=>
 Gp G o true (binOp PP .add 3 I ae) σ10 fun V σ11=>
 Gp G o true (binOp PP .add 3 V I1) σ11 fun ai σ12=>
 Gp G o true (indexAddr PP 134 B ai) σ12 fun aj σ13=>
 Gp G o true (load PP 102 aj σ13) σ13 fun aq σ14=>
 Gp G o true (Qg CC K [aw,aq] σ14) σ14 fun Y σ15=>
 Gp G o true (binOp PP .lss 3 Y I0) σ15 fun L σ16=>
 (Qt o L (DV.p (PV.bool false))).bind fun C=>
 Qh C
 (
 (binOp PP .add 3 F I1).bind fun y=>
 f146_J0 G lo a c d f i y i w F F c af F Q c o o K A ac U au S aw B I ae V ai aj aq Y L C F y σ16
 )
 (
 f146_J0 G lo a c d f i F i w F F c af F Q c o o K A ac U au S aw B I ae V ai aj aq Y L C Z Z σ16
 )
 ):=(f146_L0_eqN G hG lo a c d f i σ).trans (by simp only [f146_J0_eq])
theorem F146_eq (G:Qe) (lo:Nat) (a b c d f:DV) (σ:Qa):F146 G lo a b c d f σ =
 f146_L0 G lo a c d f b σ:=by kernel_rfl
theorem F146_call {lo:Nat} {a b c d f:DV} (h:F146 Qb lo a b c d f σ=some r):CC lo 146 [a,b,c,d,f] σ=some r:=
 callL_run Tryz.func146 (by decide +kernel) rfl (by decide +kernel) h
def c128_0:Code:=Qs Tryz.f128
def a128_0:Ann:=(pol 128).ann
def a128_11:Ann:=right (right (right (left (right (right a128_0)))))
def a128_12:Ann:=left a128_11
def c128_13:Code:=fstC (fstC (sndC (sndC (sndC (fstC (sndC (sndC c128_0)))))))
def a128_20:Ann:=left (right (left a128_12))
def c128_29:Code:=sndC (sndC (fstC (fstC (sndC c128_13))))
def a128_29:Ann:=right (right (left a128_20))
def c128_30:Code:=sndC (sndC c128_13)
def a128_30:Ann:=right (right (left a128_12))
def f128_L0 (a b k g i j:DV) (σ:Qa):RS:=
 Qm G PP (pol 128) CC lo (.loop c128_13) a128_12 (a::b::zn 6 (k::g::i::j::zn 55 [])) σ
 (Qf 0 a128_11 (finR PP Tryz.f128.results.toList))
def f128_J0 (a b k g i j l au S aw B I ae V ai Y L C x y X P N t J E:DV) (σ:Qa):RS:=
 (seqC G PP (pol 128) CC lo c128_29 a128_29 (Qf 1 a128_20 (seqC G PP (pol 128) CC lo c128_30 a128_30 (QN G PP (pol 128) CC lo c128_13 a128_12 (Qf 0 a128_11 (finR PP Tryz.f128.results.toList)))))) .normal (a::b::zn 6 (k::g::i::j::l::zn 15 (au::S::aw::B::I::ae::V::ai::Z::Z::Y::L::C::x::y::X::P::N::t::J::E::zn 18 []))) σ
def F128 (a b c d:DV) (σ:Qa):RS:=
 Qm G PP (pol 128) CC lo c128_0 a128_0 (a::b::c::d::zn 63 []) σ (finR PP Tryz.f128.results.toList)
theorem f128_J0_eq (G:Qe) (lo:Nat) (a b k g i j l au S aw B I ae V ai Y L C x y X P N t J E:DV) (σ:Qa):f128_J0 G lo a b k g i j l au S aw B I ae V ai Y L C x y X P N t J E σ =
 (binOp PP .add 3 b l).bind fun aa=>
 (binOp PP .add 3 b l).bind fun av=>
 (indexAddr PP 134 a av).bind fun bc=>
 (load PP 102 bc σ).bind fun bb=>
 (indexAddr PP 134 a j).bind fun bi=>
 (load PP 102 bi σ).bind fun bj=>
 (indexAddr PP 134 a j).bind fun bu=>
 (store PP lo 102 bu bb σ).bind fun σ3=>
 (indexAddr PP 134 a aa).bind fun bg=>
 (store PP lo 102 bg bj σ3).bind fun σ4=>
 (binOp PP .add 3 j I1).bind fun aq=>
 f128_L0 G lo a b k g i aq σ4:=by kernel_rfl
theorem f128_L0_eqN (G:Qe) (hG:Qo G) (lo:Nat) (a b k g i j:DV) (σ:Qa):f128_L0 G lo a b k g i j σ =
 (binOp PP .quo 3 k (DV.p (PV.int IntKind.i64 (4)))).bind fun B=>
 (binOp PP .mul 3 B (DV.p (PV.int IntKind.i64 (2)))).bind fun I=>
 (binOp PP .add 3 b I).bind fun ae=>
 (binOp PP .add 3 ae I1).bind fun V=>
 (binOp PP .leq 3 j V).bind fun ai=>
 Qh ai
 (
 (Qd CC lo (DV.fn 148 []) [g] σ).bind fun r38_2=>
 (binOp PP .sub 165 i (DV.p (PV.int IntKind.u64 (1)))).bind fun C=>
 (binOp PP .and 165 r38_2.1 C).bind fun x=>
 (convert PP 165 3 x).bind fun y=>
 (binOp PP .geq 3 y k).bind fun N=>
 Qh N
 (
 (binOp PP .sub 3 y k).bind fun E=>
 (binOp PP .add 3 b E).bind fun aa=>
 (binOp PP .add 3 b E).bind fun av=>
 (indexAddr PP 134 a av).bind fun bc=>
 (load PP 102 bc r38_2.2).bind fun bb=>
 (indexAddr PP 134 a j).bind fun bi=>
 (load PP 102 bi r38_2.2).bind fun bj=>
 (indexAddr PP 134 a j).bind fun bu=>
 (store PP lo 102 bu bb r38_2.2).bind fun σ3=>
 (indexAddr PP 134 a aa).bind fun bg=>
 (store PP lo 102 bg bj σ3).bind fun σ4=>
 (binOp PP .add 3 j I1).bind fun aq=>
 f128_L0 G lo a b k g i aq σ4
 )
 (
 (binOp PP .add 3 b y).bind fun aa=>
 (binOp PP .add 3 b y).bind fun av=>
 (indexAddr PP 134 a av).bind fun bc=>
 (load PP 102 bc r38_2.2).bind fun bb=>
 (indexAddr PP 134 a j).bind fun bi=>
 (load PP 102 bi r38_2.2).bind fun bj=>
 (indexAddr PP 134 a j).bind fun bu=>
 (store PP lo 102 bu bb r38_2.2).bind fun σ5=>
 (indexAddr PP 134 a aa).bind fun bg=>
 (store PP lo 102 bg bj σ5).bind fun σ6=>
 (binOp PP .add 3 j I1).bind fun aq=>
 f128_L0 G lo a b k g i aq σ6
 )
 )
 (
 some ((DV.tuple []),σ)
 ):=(Ql G hG).trans (by kernel_rfl)
theorem f128_L0_eq (G:Qe) (hG:Qo G) (lo:Nat) (a b k g i j:DV) (σ:Qa):f128_L0 G lo a b k g i j σ =
 (binOp PP .quo 3 k (DV.p (PV.int IntKind.i64 (4)))).bind fun B=>
 (binOp PP .mul 3 B (DV.p (PV.int IntKind.i64 (2)))).bind fun I=>
 (binOp PP .add 3 b I).bind fun ae=>
 (binOp PP .add 3 ae I1).bind fun V=>
 (binOp PP .leq 3 j V).bind fun ai=>
 Qh ai
 (
 (Qd CC lo (DV.fn 148 []) [g] σ).bind fun r38_2=>
 (binOp PP .sub 165 i (DV.p (PV.int IntKind.u64 (1)))).bind fun C=>
 (binOp PP .and 165 r38_2.1 C).bind fun x=>
 (convert PP 165 3 x).bind fun y=>
 (binOp PP .geq 3 y k).bind fun N=>
 Qh N
 (
 (binOp PP .sub 3 y k).bind fun E=>
 f128_J0 G lo a b k g i j E j b k B I ae V ai r38_2.1 i C x y y k N y k E r38_2.2
 )
 (
 f128_J0 G lo a b k g i j y j b k B I ae V ai r38_2.1 i C x y y k N Z Z Z r38_2.2
 )
 )
 (
 some ((DV.tuple []),σ)
 ):=(f128_L0_eqN G hG lo a b k g i j σ).trans (by simp only [f128_J0_eq])
theorem F128_eq (G:Qe) (lo:Nat) (a b c d:DV) (σ:Qa):F128 G lo a b c d σ =
 (binOp PP .sub 3 c b).bind fun F=>
 (binOp PP .geq 3 F (DV.p (PV.int IntKind.i64 (8)))).bind fun R=>
 Qh R
 (
 (convert PP 3 185 F).bind fun b8=>
 (Qx PP 185).bind fun z9=>
 (store PP lo 185 (DV.ptr (List.length σ) 0) b8 (σ++[Row.mix z9])).bind fun σ1=>
 (Qg CC (DV.fn 147 []) [F] σ1).bind fun u=>
 (binOp PP .quo 3 F (DV.p (PV.int IntKind.i64 (4)))).bind fun K=>
 (binOp PP .mul 3 K (DV.p (PV.int IntKind.i64 (2)))).bind fun A=>
 (binOp PP .add 3 b A).bind fun ac=>
 (binOp PP .sub 3 ac I1).bind fun U=>
 f128_L0 G lo a b F (DV.ptr (List.length σ) 0) u U σ1
 )
 (
 some ((DV.tuple []),σ)
 ):=by kernel_rfl
theorem F128_call {lo:Nat} {a b c d:DV} (h:F128 Qb lo a b c d σ=some r):CC lo 128 [a,b,c,d] σ=some r:=
 callL_run Tryz.func128 (by decide +kernel) rfl (by decide +kernel) h
def c147_0:Code:=Qs Tryz.f147
def a147_0:Ann:=(pol 147).ann
def F147 (a:DV) (σ:Qa):RS:=
 Qm G PP (pol 147) CC lo c147_0 a147_0 (a::zn 6 []) σ (finR PP Tryz.f147.results.toList)
theorem F147_eq (G:Qe) (lo:Nat) (a:DV) (σ:Qa):F147 G lo a σ =
 (convert PP 3 165 a).bind fun f=>
 (Qg CC (DV.fn 122 []) [f] σ).bind fun m=>
 (binOp PP .shl 165 (DV.p (PV.int IntKind.u64 (1))) m).bind fun O=>
 some (O,σ):=by kernel_rfl
theorem F147_call {lo:Nat} {a:DV} (h:F147 Qb lo a σ=some r):CC lo 147 [a] σ=some r:=
 callL_run Tryz.func147 (by decide +kernel) rfl (by decide +kernel) h
def c148_0:Code:=Qs Tryz.f148
def a148_0:Ann:=(pol 148).ann
def F148 (a:DV) (σ:Qa):RS:=
 Qm G PP (pol 148) CC lo c148_0 a148_0 (a::zn 32 []) σ (finR PP Tryz.f148.results.toList)
theorem F148_eq (G:Qe) (lo:Nat) (a:DV) (σ:Qa):F148 G lo a σ =
 (QY a).bind fun f=>
 (load PP 185 f σ).bind fun m=>
 (QY a).bind fun H=>
 (load PP 185 H σ).bind fun k=>
 (binOp PP .shl 185 k (DV.p (PV.int IntKind.u64 (13)))).bind fun g=>
 (binOp PP .xor 185 m g).bind fun i=>
 (QY a).bind fun j=>
 (store PP lo 185 j i σ).bind fun σ1=>
 (QY a).bind fun q=>
 (load PP 185 q σ1).bind fun w=>
 (QY a).bind fun ah=>
 (load PP 185 ah σ1).bind fun R=>
 (binOp PP .shr 185 R (DV.p (PV.int IntKind.u64 (7)))).bind fun af=>
 (binOp PP .xor 185 w af).bind fun b8=>
 (QY a).bind fun Q=>
 (store PP lo 185 Q b8 σ1).bind fun σ2=>
 (QY a).bind fun o=>
 (load PP 185 o σ2).bind fun z=>
 (QY a).bind fun A=>
 (load PP 185 A σ2).bind fun ac=>
 (binOp PP .shl 185 ac (DV.p (PV.int IntKind.u64 (17)))).bind fun U=>
 (binOp PP .xor 185 z U).bind fun au=>
 (QY a).bind fun S=>
 (store PP lo 185 S au σ2).bind fun σ3=>
 (QY a).bind fun B=>
 (load PP 185 B σ3).bind fun I=>
 some (I,σ3):=by kernel_rfl
theorem F148_call {lo:Nat} {a:DV} (h:F148 Qb lo a σ=some r):CC lo 148 [a] σ=some r:=
 callL_run Tryz.func148 (by decide +kernel) rfl (by decide +kernel) h
def c129_0:Code:=Qs Tryz.f129
def a129_0:Ann:=(pol 129).ann
def c129_26:Code:=sndC (fstC (sndC (fstC (sndC (sndC (sndC (sndC (sndC (sndC c129_0)))))))))
def a129_26:Ann:=right (left (right (left (right (right (right (right (right (right a129_0)))))))))
def c129_28:Code:=sndC (sndC (sndC (sndC (sndC (sndC (sndC c129_0))))))
def a129_28:Ann:=right (right (right (right (right (right (right a129_0))))))
def f129_J0_fr (a b c d k g i j l q w F ah R af b8 Q u o z K A ac U au S aw B I ae V ai aj aq Y L C x y X P N t J E:DV):Qp:=(a::b::c::d::Z::Z::Z::Z::k::g::i::j::l::q::w::F::ah::R::af::b8::Q::u::o::z::K::A::ac::U::au::S::aw::B::I::ae::V::ai::aj::aq::Y::L::C::x::y::X::P::N::t::J::E::zn 14 [])
def f129_J0 (a b c d k g i j l q w F ah R af b8 Q u o z K A ac U au S aw B I ae V ai aj aq Y L C x y X P N t J E:DV) (σ:Qa):RS:=
 (seqC G PP (pol 129) CC lo c129_26 a129_26 (seqC G PP (pol 129) CC lo c129_28 a129_28 (finR PP Tryz.f129.results.toList))) .normal (f129_J0_fr a b c d k g i j l q w F ah R af b8 Q u o z K A ac U au S aw B I ae V ai aj aq Y L C x y X P N t J E) σ
def f129_J1_fr (a b c d k g i j l q w F ah R af b8 Q u o z K A ac U au S aw B I ae V ai aj aq Y L C x y X P N t J E ak ar az T W aa:DV):Qp:=(a::b::c::d::Z::Z::Z::Z::k::g::i::j::l::q::w::F::ah::R::af::b8::Q::u::o::z::K::A::ac::U::au::S::aw::B::I::ae::V::ai::aj::aq::Y::L::C::x::y::X::P::N::t::J::E::ak::ar::az::T::W::aa::zn 8 [])
def f129_J1 (a b c d k g i j l q w F ah R af b8 Q u o z K A ac U au S aw B I ae V ai aj aq Y L C x y X P N t J E ak ar az T W aa:DV) (σ:Qa):RS:=
 (seqC G PP (pol 129) CC lo c129_28 a129_28 (finR PP Tryz.f129.results.toList)) .normal (f129_J1_fr a b c d k g i j l q w F ah R af b8 Q u o z K A ac U au S aw B I ae V ai aj aq Y L C x y X P N t J E ak ar az T W aa) σ
def F129 (a b c d:DV) (σ:Qa):RS:=
 Qm G PP (pol 129) CC lo c129_0 a129_0 (a::b::c::d::zn 59 []) σ (finR PP Tryz.f129.results.toList)
theorem f129_J0_gen (G:Qe) (lo:Nat) (N0:Qp->Qa->Option (DV×Qa)) (a b c d k g i j l q w F ah R af b8 Q u o z K A ac U au S aw B I ae V ai aj aq Y L C x y X P N t J E:DV) (σ:Qa):(seqC G PP (pol 129) CC lo c129_26 a129_26 (VL N0 (seqC G PP (pol 129) CC lo c129_28 a129_28 (finR PP Tryz.f129.results.toList)))) .normal (f129_J0_fr a b c d k g i j l q w F ah R af b8 Q u o z K A ac U au S aw B I ae V ai aj aq Y L C x y X P N t J E) σ =
 (Qd CC lo (DV.fn 150 []) [a,l,q,w,j,d] σ).bind fun r54_4=>
 N0 (f129_J1_fr a b c d k g i j l r54_4.1 w F ah R af b8 Q u o z K A ac U au S aw B I ae V ai aj aq Y L C x y X P N t J E a l q w d r54_4.1) r54_4.2:=by kernel_rfl
theorem f129_J0_eq (G:Qe) (lo:Nat) (a b c d k g i j l q w F ah R af b8 Q u o z K A ac U au S aw B I ae V ai aj aq Y L C x y X P N t J E:DV) (σ:Qa):f129_J0 G lo a b c d k g i j l q w F ah R af b8 Q u o z K A ac U au S aw B I ae V ai aj aq Y L C x y X P N t J E σ =
 (Qd CC lo (DV.fn 150 []) [a,l,q,w,j,d] σ).bind fun r54_4=>
 f129_J1 G lo a b c d k g i j l r54_4.1 w F ah R af b8 Q u o z K A ac U au S aw B I ae V ai aj aq Y L C x y X P N t J E a l q w d r54_4.1 r54_4.2:=by
 have h:=f129_J0_gen (N0:=(seqC G PP (pol 129) CC lo c129_28 a129_28 (finR PP Tryz.f129.results.toList)) .normal) G lo a b c d k g i j l q w F ah R af b8 Q u o z K A ac U au S aw B I ae V ai aj aq Y L C x y X P N t J E σ
 simp only [WG] at h
 exact h
theorem f129_J1_eq (G:Qe) (lo:Nat) (a b c d k g i j l q w F ah R af b8 Q u o z K A ac U au S aw B I ae V ai aj aq Y L C x y X P N t J E ak ar az T W aa:DV) (σ:Qa):f129_J1 G lo a b c d k g i j l q w F ah R af b8 Q u o z K A ac U au S aw B I ae V ai aj aq Y L C x y X P N t J E ak ar az T W aa σ =
 (load PP 3 j σ).bind fun b9=>
 (binOp PP .eql 3 b9 I0).bind fun av=>
 Qh av
 (
 some ((DV.tuple [q,I1]),σ)
 )
 (
 (binOp PP .eql 3 b9 (DV.p (PV.int IntKind.i64 (12)))).bind fun bh=>
 Qh bh
 (
 some ((DV.tuple [q,(DV.p (PV.int IntKind.i64 (2)))]),σ)
 )
 (
 some ((DV.tuple [q,I0]),σ)
 )
 ):=by kernel_rfl
theorem F129_eqN (G:Qe) (lo:Nat) (a b c d:DV) (σ:Qa):F129 G lo a b c d σ =
 (binOp PP .sub 3 c b).bind fun R=>
 (Qx PP 3).bind fun z11=>
 (binOp PP .quo 3 R (DV.p (PV.int IntKind.i64 (4)))).bind fun Q=>
 (binOp PP .mul 3 Q I1).bind fun u=>
 (binOp PP .add 3 b u).bind fun o=>
 (binOp PP .quo 3 R (DV.p (PV.int IntKind.i64 (4)))).bind fun A=>
 (binOp PP .mul 3 A (DV.p (PV.int IntKind.i64 (2)))).bind fun ac=>
 (binOp PP .add 3 b ac).bind fun U=>
 (binOp PP .quo 3 R (DV.p (PV.int IntKind.i64 (4)))).bind fun aw=>
 (binOp PP .mul 3 aw (DV.p (PV.int IntKind.i64 (3)))).bind fun B=>
 (binOp PP .add 3 b B).bind fun I=>
 (binOp PP .geq 3 R (DV.p (PV.int IntKind.i64 (8)))).bind fun V=>
 Qh V
 (
 (binOp PP .geq 3 R (DV.p (PV.int IntKind.i64 (50)))).bind fun aj=>
 Qh aj
 (
 (Qd CC lo (DV.fn 149 []) [a,o,(DV.ptr (List.length σ) 0),d] (σ++[Row.mix z11])).bind fun r40_1=>
 (Qd CC lo (DV.fn 149 []) [a,U,(DV.ptr (List.length σ) 0),d] r40_1.2).bind fun r44_2=>
 (Qd CC lo (DV.fn 149 []) [a,I,(DV.ptr (List.length σ) 0),d] r44_2.2).bind fun r48_3=>
 (Qd CC lo (DV.fn 150 []) [a,r40_1.1,r44_2.1,r48_3.1,(DV.ptr (List.length σ) 0),d] r48_3.2).bind fun r54_4=>
 (load PP 3 (DV.ptr (List.length σ) 0) r54_4.2).bind fun b9=>
 (binOp PP .eql 3 b9 I0).bind fun av=>
 Qh av
 (
 some ((DV.tuple [r54_4.1,I1]),r54_4.2)
 )
 (
 (binOp PP .eql 3 b9 (DV.p (PV.int IntKind.i64 (12)))).bind fun bh=>
 Qh bh
 (
 some ((DV.tuple [r54_4.1,(DV.p (PV.int IntKind.i64 (2)))]),r54_4.2)
 )
 (
 some ((DV.tuple [r54_4.1,I0]),r54_4.2)
 )
 )
 )
 (
 (Qd CC lo (DV.fn 150 []) [a,o,U,I,(DV.ptr (List.length σ) 0),d] (σ++[Row.mix z11])).bind fun r54_5=>
 (load PP 3 (DV.ptr (List.length σ) 0) r54_5.2).bind fun b9=>
 (binOp PP .eql 3 b9 I0).bind fun av=>
 Qh av
 (
 some ((DV.tuple [r54_5.1,I1]),r54_5.2)
 )
 (
 (binOp PP .eql 3 b9 (DV.p (PV.int IntKind.i64 (12)))).bind fun bh=>
 Qh bh
 (
 some ((DV.tuple [r54_5.1,(DV.p (PV.int IntKind.i64 (2)))]),r54_5.2)
 )
 (
 some ((DV.tuple [r54_5.1,I0]),r54_5.2)
 )
 )
 )
 )
 (
 (load PP 3 (DV.ptr (List.length σ) 0) (σ++[Row.mix z11])).bind fun b9=>
 (binOp PP .eql 3 b9 I0).bind fun av=>
 Qh av
 (
 some ((DV.tuple [U,I1]),(σ++[Row.mix z11]))
 )
 (
 (binOp PP .eql 3 b9 (DV.p (PV.int IntKind.i64 (12)))).bind fun bh=>
 Qh bh
 (
 some ((DV.tuple [U,(DV.p (PV.int IntKind.i64 (2)))]),(σ++[Row.mix z11]))
 )
 (
 some ((DV.tuple [U,I0]),(σ++[Row.mix z11]))
 )
 )
 ):=by kernel_rfl
theorem F129_eq (G:Qe) (lo:Nat) (a b c d:DV) (σ:Qa):F129 G lo a b c d σ =
 (binOp PP .sub 3 c b).bind fun R=>
 (Qx PP 3).bind fun z11=>
 (binOp PP .quo 3 R (DV.p (PV.int IntKind.i64 (4)))).bind fun Q=>
 (binOp PP .mul 3 Q I1).bind fun u=>
 (binOp PP .add 3 b u).bind fun o=>
 (binOp PP .quo 3 R (DV.p (PV.int IntKind.i64 (4)))).bind fun A=>
 (binOp PP .mul 3 A (DV.p (PV.int IntKind.i64 (2)))).bind fun ac=>
 (binOp PP .add 3 b ac).bind fun U=>
 (binOp PP .quo 3 R (DV.p (PV.int IntKind.i64 (4)))).bind fun aw=>
 (binOp PP .mul 3 aw (DV.p (PV.int IntKind.i64 (3)))).bind fun B=>
 (binOp PP .add 3 b B).bind fun I=>
 (binOp PP .geq 3 R (DV.p (PV.int IntKind.i64 (8)))).bind fun V=>
 Qh V
 (
 (binOp PP .geq 3 R (DV.p (PV.int IntKind.i64 (50)))).bind fun aj=>
 Qh aj
 (
 (Qd CC lo (DV.fn 149 []) [a,o,(DV.ptr (List.length σ) 0),d] (σ++[Row.mix z11])).bind fun r40_1=>
 (Qd CC lo (DV.fn 149 []) [a,U,(DV.ptr (List.length σ) 0),d] r40_1.2).bind fun r44_2=>
 (Qd CC lo (DV.fn 149 []) [a,I,(DV.ptr (List.length σ) 0),d] r44_2.2).bind fun r48_3=>
 f129_J0 G lo a b c d I0 I0 R (DV.ptr (List.length σ) 0) r40_1.1 r44_2.1 r48_3.1 c b R b R Q u o b R A ac U b R aw B I R V R aj a o d r40_1.1 a U d r44_2.1 a I d r48_3.1 r48_3.2
 )
 (
 f129_J0 G lo a b c d I0 I0 R (DV.ptr (List.length σ) 0) o U I c b R b R Q u o b R A ac U b R aw B I R V R aj Z Z Z Z Z Z Z Z Z Z Z Z (σ++[Row.mix z11])
 )
 )
 (
 f129_J1 G lo a b c d I0 I0 R (DV.ptr (List.length σ) 0) o U I c b R b R Q u o b R A ac U b R aw B I R V Z Z Z Z Z Z Z Z Z Z Z Z Z Z Z Z Z Z Z Z (σ++[Row.mix z11])
 ):=(F129_eqN G lo a b c d σ).trans (by simp only [f129_J0_eq,f129_J1_eq])
theorem F129_call {lo:Nat} {a b c d:DV} (h:F129 Qb lo a b c d σ=some r):CC lo 129 [a,b,c,d] σ=some r:=
 callL_run Tryz.func129 (by decide +kernel) rfl (by decide +kernel) h
def c149_0:Code:=Qs Tryz.f149
def a149_0:Ann:=(pol 149).ann
def F149 (a b c d:DV) (σ:Qa):RS:=
 Qm G PP (pol 149) CC lo c149_0 a149_0 (a::b::c::d::zn 14 []) σ (finR PP Tryz.f149.results.toList)
theorem F149_eq (G:Qe) (lo:Nat) (a b c d:DV) (σ:Qa):F149 G lo a b c d σ =
 (binOp PP .sub 3 b I1).bind fun j=>
 (binOp PP .add 3 b I1).bind fun w=>
 (Qd CC lo (DV.fn 150 []) [a,j,b,w,c,d] σ).bind fun r17_1=>
 some (r17_1.1,r17_1.2):=by kernel_rfl
theorem F149_call {lo:Nat} {a b c d:DV} (h:F149 Qb lo a b c d σ=some r):CC lo 149 [a,b,c,d] σ=some r:=
 callL_run Tryz.func149 (by decide +kernel) rfl (by decide +kernel) h
def c150_0:Code:=Qs Tryz.f150
def a150_0:Ann:=(pol 150).ann
def F150 (a b c d f m:DV) (σ:Qa):RS:=
 Qm G PP (pol 150) CC lo c150_0 a150_0 (a::b::c::d::f::m::zn 35 []) σ (finR PP Tryz.f150.results.toList)
theorem F150_eq (G:Qe) (lo:Nat) (a b c d f m:DV) (σ:Qa):F150 G lo a b c d f m σ =
 (Qd CC lo (DV.fn 162 []) [a,b,c,f,m] σ).bind fun r19_1=>
 (Qj r19_1.1 0).bind fun Q=>
 (Qj r19_1.1 1).bind fun u=>
 (Qd CC lo (DV.fn 162 []) [a,u,d,f,m] r19_1.2).bind fun r28_2=>
 (Qj r28_2.1 0).bind fun S=>
 (Qj r28_2.1 1).bind fun aw=>
 (Qd CC lo (DV.fn 162 []) [a,Q,S,f,m] r28_2.2).bind fun r37_3=>
 (Qj r37_3.1 0).bind fun Y=>
 (Qj r37_3.1 1).bind fun L=>
 some (L,r37_3.2):=by kernel_rfl
theorem F150_call {lo:Nat} {a b c d f m:DV} (h:F150 Qb lo a b c d f m σ=some r):CC lo 150 [a,b,c,d,f,m] σ=some r:=
 callL_run Tryz.func150 (by decide +kernel) rfl (by decide +kernel) h
def c162_0:Code:=Qs Tryz.f162
def a162_0:Ann:=(pol 162).ann
def F162 (a b c d f:DV) (σ:Qa):RS:=
 Qm G PP (pol 162) CC lo c162_0 a162_0 (a::b::c::d::f::zn 27 []) σ (finR PP Tryz.f162.results.toList)
theorem F162_eq (G:Qe) (lo:Nat) (a b c d f:DV) (σ:Qa):F162 G lo a b c d f σ =
 (indexAddr PP 134 a c).bind fun F=>
 (load PP 102 F σ).bind fun ah=>
 (indexAddr PP 134 a b).bind fun b8=>
 (load PP 102 b8 σ).bind fun Q=>
 (Qg CC f [ah,Q] σ).bind fun u=>
 (binOp PP .lss 3 u I0).bind fun o=>
 Qh o
 (
 (QY d).bind fun K=>
 (load PP 3 K σ).bind fun A=>
 (binOp PP .add 3 A I1).bind fun ac=>
 (QY d).bind fun U=>
 (store PP lo 3 U ac σ).bind fun σ1=>
 some ((DV.tuple [c,b]),σ1)
 )
 (
 some ((DV.tuple [b,c]),σ)
 ):=by kernel_rfl
theorem F162_call {lo:Nat} {a b c d f:DV} (h:F162 Qb lo a b c d f σ=some r):CC lo 162 [a,b,c,d,f] σ=some r:=
 callL_run Tryz.func162 (by decide +kernel) rfl (by decide +kernel) h
def c130_0:Code:=Qs Tryz.f130
def a130_0:Ann:=(pol 130).ann
def a130_4:Ann:=right (right a130_0)
def a130_5:Ann:=left a130_4
def c130_6:Code:=fstC (fstC (sndC (sndC c130_0)))
def f130_L0 (a k g:DV) (σ:Qa):RS:=
 Qm G PP (pol 130) CC lo (.loop c130_6) a130_5 (a::zn 7 (k::g::zn 24 [])) σ
 (Qf 0 a130_4 (finR PP Tryz.f130.results.toList))
def F130 (a b c d:DV) (σ:Qa):RS:=
 Qm G PP (pol 130) CC lo c130_0 a130_0 (a::b::c::d::zn 30 []) σ (finR PP Tryz.f130.results.toList)
theorem f130_L0_eq (G:Qe) (hG:Qo G) (lo:Nat) (a k g:DV) (σ:Qa):f130_L0 G lo a k g σ =
 (binOp PP .lss 3 k g).bind fun F=>
 Qh F
 (
 (indexAddr PP 134 a g).bind fun o=>
 (load PP 102 o σ).bind fun z=>
 (indexAddr PP 134 a k).bind fun ac=>
 (load PP 102 ac σ).bind fun U=>
 (indexAddr PP 134 a k).bind fun au=>
 (store PP lo 102 au z σ).bind fun σ1=>
 (indexAddr PP 134 a g).bind fun S=>
 (store PP lo 102 S U σ1).bind fun σ2=>
 (binOp PP .add 3 k I1).bind fun B=>
 (binOp PP .sub 3 g I1).bind fun ae=>
 f130_L0 G lo a B ae σ2
 )
 (
 some ((DV.tuple []),σ)
 ):=(Ql G hG).trans (by kernel_rfl)
theorem F130_eq (G:Qe) (lo:Nat) (a b c d:DV) (σ:Qa):F130 G lo a b c d σ =
 (binOp PP .sub 3 c I1).bind fun l=>
 f130_L0 G lo a b l σ:=by kernel_rfl
theorem F130_call {lo:Nat} {a b c d:DV} (h:F130 Qb lo a b c d σ=some r):CC lo 130 [a,b,c,d] σ=some r:=
 callL_run Tryz.func130 (by decide +kernel) rfl (by decide +kernel) h
def c131_0:Code:=Qs Tryz.f131
def a131_0:Ann:=(pol 131).ann
def VQ:Ann:=right (left (right (right a131_0)))
def VG:Ann:=left VQ
def Vr:Code:=fstC (fstC (sndC (fstC (sndC (sndC c131_0)))))
def WL:Ann:=left (right (left VG))
def a131_18:Ann:=left (left WL)
def a131_19:Ann:=left a131_18
def c131_20:Code:=fstC (fstC (fstC (fstC (fstC (sndC Vr)))))
def c131_28:Code:=sndC (fstC (fstC (sndC Vr)))
def a131_28:Ann:=right (left WL)
def a131_52:Ann:=right (left (right (left (right (right (right a131_28))))))
def a131_53:Ann:=left a131_52
def c131_54:Code:=fstC (fstC (sndC (fstC (sndC (fstC (sndC (sndC (sndC c131_28))))))))
def c131_71:Code:=sndC (sndC (sndC (sndC c131_28)))
def a131_71:Ann:=right (right (right (right a131_28)))
def a131_76:Ann:=right (left (right a131_71))
def a131_77:Ann:=left a131_76
def c131_78:Code:=fstC (fstC (sndC (fstC (sndC c131_71))))
def Vq:Code:=sndC (sndC Vr)
def Vu:Ann:=right (right (left VG))
def WY:Code:=sndC (sndC (sndC c131_0))
def Vb:Ann:=right (right (right a131_0))
def f131_L0 (a b c d g i:DV) (σ:Qa):RS:=
 Qm G PP (pol 131) CC lo (.loop Vr) VG (a::b::c::d::zn 5 (g::i::zn 130 [])) σ
 (Qf 0 VQ (seqC G PP (pol 131) CC lo WY Vb (finR PP Tryz.f131.results.toList)))
def f131_L1 (a b c d g i:DV) (σ:Qa):RS:=
 Qm G PP (pol 131) CC lo (.loop c131_20) a131_19 (a::b::c::d::zn 5 (g::i::zn 130 [])) σ
 (Qf 2 a131_18 (seqC G PP (pol 131) CC lo c131_28 a131_28 (Qf 1 WL (seqC G PP (pol 131) CC lo Vq Vu (QN G PP (pol 131) CC lo Vr VG (Qf 0 VQ (seqC G PP (pol 131) CC lo WY Vb (finR PP Tryz.f131.results.toList))))))))
def f131_L2 (a b c d g i j:DV) (σ:Qa):RS:=
 Qm G PP (pol 131) CC lo (.loop c131_54) a131_53 (a::b::c::d::zn 5 (g::i::j::zn 129 [])) σ
 (Qf 4 a131_52 (seqC G PP (pol 131) CC lo c131_71 a131_71 (Qf 1 WL (seqC G PP (pol 131) CC lo Vq Vu (QN G PP (pol 131) CC lo Vr VG (Qf 0 VQ (seqC G PP (pol 131) CC lo WY Vb (finR PP Tryz.f131.results.toList))))))))
def f131_J0_fr (a b c d g i j L C x y X P N t J E ak ar az T W aa b9 be bp av bc bb bh bm bi bj bu bg bf cm dc br ba cz cc M ck ca bq bz bv c7 cw n cr bk bt bn bw cn ch co ct ci ce cb cj c8 cd dh df bl:DV):Qp:=(a::b::c::d::zn 5 (g::i::j::zn 27 (L::C::x::y::X::P::N::t::J::E::ak::ar::az::T::W::aa::b9::be::bp::av::bc::bb::bh::bm::bi::bj::bu::bg::bf::cm::dc::br::ba::cz::cc::M::ck::ca::bq::bz::bv::c7::cw::n::cr::bk::bt::bn::bw::cn::ch::co::ct::ci::ce::cb::cj::c8::cd::dh::df::bl::zn 40 [])))
def f131_J0 (a b c d g i j L C x y X P N t J E ak ar az T W aa b9 be bp av bc bb bh bm bi bj bu bg bf cm dc br ba cz cc M ck ca bq bz bv c7 cw n cr bk bt bn bw cn ch co ct ci ce cb cj c8 cd dh df bl:DV) (σ:Qa):RS:=
 (seqC G PP (pol 131) CC lo c131_71 a131_71 (Qf 1 WL (seqC G PP (pol 131) CC lo Vq Vu (QN G PP (pol 131) CC lo Vr VG (Qf 0 VQ (seqC G PP (pol 131) CC lo WY Vb (finR PP Tryz.f131.results.toList))))))) .normal (f131_J0_fr a b c d g i j L C x y X P N t J E ak ar az T W aa b9 be bp av bc bb bh bm bi bj bu bg bf cm dc br ba cz cc M ck ca bq bz bv c7 cw n cr bk bt bn bw cn ch co ct ci ce cb cj c8 cd dh df bl) σ
def f131_L3 (a b c d g i l:DV) (σ:Qa):RS:=
 Qm G PP (pol 131) CC lo (.loop c131_78) a131_77 (a::b::c::d::zn 5 (g::i::Z::l::zn 128 [])) σ
 (Qf 6 a131_76 (Qf 1 WL (seqC G PP (pol 131) CC lo Vq Vu (QN G PP (pol 131) CC lo Vr VG (Qf 0 VQ (seqC G PP (pol 131) CC lo WY Vb (finR PP Tryz.f131.results.toList)))))))
def f131_J1_fr (a b c d g i j l L C x y X P N t J E ak ar az T W aa b9 be bp av bc bb bh bm bi bj bu bg bf cm dc br ba cz cc M ck ca bq bz bv c7 cw n cr bk bt bn bw cn ch co ct ci ce cb cj c8 cd dh df bl dl ei dt dz dm ej dk dj ea dd dx am c9 ek du di cp eu ef cg ew cq dq ez cu ee f5 db de dw f6 eq eg eh f0 dg en dy da dr:DV):Qp:=(a::b::c::d::zn 5 (g::i::j::l::zn 26 ([L,C,x,y,X,P,N,t,J,E,ak,ar,az,T,W,aa,b9,be,bp,av,bc,bb,bh,bm,bi,bj,bu,bg,bf,cm,dc,br,ba,cz,cc,M,ck,ca,bq,bz,bv,c7,cw,n,cr,bk,bt,bn,bw,cn,ch,co,ct,ci,ce,cb,cj,c8,cd,dh,df,bl,dl,ei,dt,dz,dm,ej,dk,dj,ea,dd,dx,am,c9,ek,du,di,cp,eu,ef,cg,ew,cq,dq,ez,cu,ee,f5,db,de,dw,f6,eq,eg,eh,f0,dg,en,dy,da,dr])))
def f131_J1 (a b c d g i j l L C x y X P N t J E ak ar az T W aa b9 be bp av bc bb bh bm bi bj bu bg bf cm dc br ba cz cc M ck ca bq bz bv c7 cw n cr bk bt bn bw cn ch co ct ci ce cb cj c8 cd dh df bl dl ei dt dz dm ej dk dj ea dd dx am c9 ek du di cp eu ef cg ew cq dq ez cu ee f5 db de dw f6 eq eg eh f0 dg en dy da dr:DV) (σ:Qa):RS:=
 (Qf 1 WL (seqC G PP (pol 131) CC lo Vq Vu (QN G PP (pol 131) CC lo Vr VG (Qf 0 VQ (seqC G PP (pol 131) CC lo WY Vb (finR PP Tryz.f131.results.toList)))))) .normal (f131_J1_fr a b c d g i j l L C x y X P N t J E ak ar az T W aa b9 be bp av bc bb bh bm bi bj bu bg bf cm dc br ba cz cc M ck ca bq bz bv c7 cw n cr bk bt bn bw cn ch co ct ci ce cb cj c8 cd dh df bl dl ei dt dz dm ej dk dj ea dd dx am c9 ek du di cp eu ef cg ew cq dq ez cu ee f5 db de dw f6 eq eg eh f0 dg en dy da dr) σ
def F131 (a b c d:DV) (σ:Qa):RS:=
 Qm G PP (pol 131) CC lo c131_0 a131_0 (a::b::c::d::zn 137 []) σ (finR PP Tryz.f131.results.toList)
theorem f131_L0_eq (G:Qe) (hG:Qo G) (lo:Nat) (a b c d g i:DV) (σ:Qa):f131_L0 G lo a b c d g i σ =
 (binOp PP .lss 3 i (DV.p (PV.int IntKind.i64 (5)))).bind fun ah=>
 Qh ah
 (
 f131_L1 G lo a b c d g i σ
 )
 (
 some ((DV.p (PV.bool false)),σ)
 ):=(Ql G hG).trans (by kernel_rfl)
theorem f131_L1_eq (G:Qe) (hG:Qo G) (lo:Nat) (a b c d g i:DV) (σ:Qa):f131_L1 G lo a b c d g i σ =
 (binOp PP .lss 3 g c).bind fun u=>
 G _ u true (some (d,σ)) σ fun z σ1=>
 G _ u true (some (a,σ1)) σ1 fun K σ2=>
 G _ u true (some (g,σ2)) σ2 fun A σ3=>
 Gp G u true (indexAddr PP 134 K A) σ3 fun ac σ4=>
 Gp G u true (load PP 102 ac σ4) σ4 fun U σ5=>
 G _ u true (some (a,σ5)) σ5 fun au σ6=>
 G _ u true (some (g,σ6)) σ6 fun S σ7=>
 Gp G u true (binOp PP .sub 3 S I1) σ7 fun aw σ8=>
 Gp G u true (indexAddr PP 134 au aw) σ8 fun B σ9=>
 Gp G u true (load PP 102 B σ9) σ9 fun I σ10=>
 Gp G u true (Qg CC z [U,I] σ10) σ10 fun ae σ11=>
 Gp G u true (binOp PP .lss 3 ae I0) σ11 fun V σ12=>
 Gp G u true (unOp .not V) σ12 fun ai σ13=>
 (Qt u ai (DV.p (PV.bool false))).bind fun aj=>
 Qh aj
 (
 (binOp PP .add 3 g I1).bind fun Y=>
 f131_L1 G lo a b c d Y i σ13
 )
 (
 (binOp PP .eql 3 g c).bind fun x=>
 Qh x
 (
 some ((DV.p (PV.bool true)),σ13)
 )
 (
 (binOp PP .sub 3 c b).bind fun P=>
 (binOp PP .lss 3 P (DV.p (PV.int IntKind.i64 (50)))).bind fun N=>
 Qh N
 (
 some ((DV.p (PV.bool false)),σ13)
 )
 (
 (binOp PP .sub 3 g I1).bind fun ar=>
 (binOp PP .sub 3 g I1).bind fun W=>
 (indexAddr PP 134 a W).bind fun aa=>
 (load PP 102 aa σ13).bind fun b9=>
 (indexAddr PP 134 a g).bind fun av=>
 (load PP 102 av σ13).bind fun bc=>
 (indexAddr PP 134 a g).bind fun bb=>
 (store PP lo 102 bb b9 σ13).bind fun σ14=>
 (indexAddr PP 134 a ar).bind fun bh=>
 (store PP lo 102 bh bc σ14).bind fun σ15=>
 (binOp PP .sub 3 g b).bind fun bj=>
 (binOp PP .geq 3 bj (DV.p (PV.int IntKind.i64 (2)))).bind fun bu=>
 Qh bu
 (
 (binOp PP .sub 3 g I1).bind fun bf=>
 f131_L2 G lo a b c d g i bf σ15
 )
 (
 f131_J0 G lo a b c d g i Z g c x c b P N a g a g ar a g W aa b9 a g av bc bb bh g b bj bu Z Z Z Z Z Z Z Z Z Z Z Z Z Z Z Z Z Z Z Z Z Z Z Z Z Z Z Z Z Z Z Z Z Z Z σ15
 )
 )
 )
 ):=(Ql G hG).trans (by kernel_rfl)
theorem f131_L2_gen (G:Qe) (hG:Qo G) (lo:Nat) (N0:Qp->Qa->Option (DV×Qa)) (a b c d g i j:DV) (σ:Qa):Qm G PP (pol 131) CC lo (.loop c131_54) a131_53 (a::b::c::d::zn 5 (g::i::j::zn 129 [])) σ
 (Qf 4 a131_52 (VL N0 (seqC G PP (pol 131) CC lo c131_71 a131_71 (Qf 1 WL (seqC G PP (pol 131) CC lo Vq Vu (QN G PP (pol 131) CC lo Vr VG (Qf 0 VQ (seqC G PP (pol 131) CC lo WY Vb (finR PP Tryz.f131.results.toList))))))))) =
 (binOp PP .geq 3 j I1).bind fun dc=>
 Qh dc
 (
 (indexAddr PP 134 a j).bind fun ck=>
 (load PP 102 ck σ).bind fun ca=>
 (binOp PP .sub 3 j I1).bind fun bv=>
 (indexAddr PP 134 a bv).bind fun c7=>
 (load PP 102 c7 σ).bind fun cw=>
 (Qg CC d [ca,cw] σ).bind fun n=>
 (binOp PP .lss 3 n I0).bind fun cr=>
 (unOp .not cr).bind fun bk=>
 Qh bk
 (
 N0 (f131_J0_fr a b c d g i Z Z Z Z Z Z Z Z Z Z Z Z Z Z Z Z Z Z Z Z Z Z Z Z Z Z Z Z Z Z Z Z Z Z Z Z Z Z Z Z Z Z Z Z Z Z Z Z Z Z Z Z Z Z Z Z Z Z Z Z Z Z Z) σ
 )
 (
 (binOp PP .sub 3 j I1).bind fun ch=>
 (binOp PP .sub 3 j I1).bind fun ci=>
 (indexAddr PP 134 a ci).bind fun ce=>
 (load PP 102 ce σ).bind fun cb=>
 (indexAddr PP 134 a j).bind fun cd=>
 (load PP 102 cd σ).bind fun dh=>
 (indexAddr PP 134 a j).bind fun df=>
 (store PP lo 102 df cb σ).bind fun σ18=>
 (indexAddr PP 134 a ch).bind fun bl=>
 (store PP lo 102 bl dh σ18).bind fun σ19=>
 (binOp PP .sub 3 j I1).bind fun ba=>
 Qm G PP (pol 131) CC lo (.loop c131_54) a131_53 (a::b::c::d::zn 5 (g::i::ba::zn 129 [])) σ19 (Qf 4 a131_52 (VL N0 (seqC G PP (pol 131) CC lo c131_71 a131_71 (Qf 1 WL (seqC G PP (pol 131) CC lo Vq Vu (QN G PP (pol 131) CC lo Vr VG (Qf 0 VQ (seqC G PP (pol 131) CC lo WY Vb (finR PP Tryz.f131.results.toList)))))))))
 )
 )
 (
 N0 (f131_J0_fr a b c d g i Z Z Z Z Z Z Z Z Z Z Z Z Z Z Z Z Z Z Z Z Z Z Z Z Z Z Z Z Z Z Z Z Z Z Z Z Z Z Z Z Z Z Z Z Z Z Z Z Z Z Z Z Z Z Z Z Z Z Z Z Z Z Z) σ
 ):=(Ql G hG).trans (by kernel_rfl)
theorem f131_L2_eq (G:Qe) (hG:Qo G) (lo:Nat) (a b c d g i j:DV) (σ:Qa):f131_L2 G lo a b c d g i j σ =
 (binOp PP .geq 3 j I1).bind fun dc=>
 Qh dc
 (
 (indexAddr PP 134 a j).bind fun ck=>
 (load PP 102 ck σ).bind fun ca=>
 (binOp PP .sub 3 j I1).bind fun bv=>
 (indexAddr PP 134 a bv).bind fun c7=>
 (load PP 102 c7 σ).bind fun cw=>
 (Qg CC d [ca,cw] σ).bind fun n=>
 (binOp PP .lss 3 n I0).bind fun cr=>
 (unOp .not cr).bind fun bk=>
 Qh bk
 (
 f131_J0 G lo a b c d g i Z Z Z Z Z Z Z Z Z Z Z Z Z Z Z Z Z Z Z Z Z Z Z Z Z Z Z Z Z Z Z Z Z Z Z Z Z Z Z Z Z Z Z Z Z Z Z Z Z Z Z Z Z Z Z Z Z Z Z Z Z Z Z σ
 )
 (
 (binOp PP .sub 3 j I1).bind fun ch=>
 (binOp PP .sub 3 j I1).bind fun ci=>
 (indexAddr PP 134 a ci).bind fun ce=>
 (load PP 102 ce σ).bind fun cb=>
 (indexAddr PP 134 a j).bind fun cd=>
 (load PP 102 cd σ).bind fun dh=>
 (indexAddr PP 134 a j).bind fun df=>
 (store PP lo 102 df cb σ).bind fun σ18=>
 (indexAddr PP 134 a ch).bind fun bl=>
 (store PP lo 102 bl dh σ18).bind fun σ19=>
 (binOp PP .sub 3 j I1).bind fun ba=>
 f131_L2 G lo a b c d g i ba σ19
 )
 )
 (
 f131_J0 G lo a b c d g i Z Z Z Z Z Z Z Z Z Z Z Z Z Z Z Z Z Z Z Z Z Z Z Z Z Z Z Z Z Z Z Z Z Z Z Z Z Z Z Z Z Z Z Z Z Z Z Z Z Z Z Z Z Z Z Z Z Z Z Z Z Z Z σ
 ):=by
 have h:=f131_L2_gen (N0:=(seqC G PP (pol 131) CC lo c131_71 a131_71 (Qf 1 WL (seqC G PP (pol 131) CC lo Vq Vu (QN G PP (pol 131) CC lo Vr VG (Qf 0 VQ (seqC G PP (pol 131) CC lo WY Vb (finR PP Tryz.f131.results.toList))))))) .normal) G hG lo a b c d g i j σ
 simp only [WG] at h
 exact h
theorem f131_J0_eq (G:Qe) (lo:Nat) (a b c d g i j L C x y X P N t J E ak ar az T W aa b9 be bp av bc bb bh bm bi bj bu bg bf cm dc br ba cz cc M ck ca bq bz bv c7 cw n cr bk bt bn bw cn ch co ct ci ce cb cj c8 cd dh df bl:DV) (σ:Qa):f131_J0 G lo a b c d g i j L C x y X P N t J E ak ar az T W aa b9 be bp av bc bb bh bm bi bj bu bg bf cm dc br ba cz cc M ck ca bq bz bv c7 cw n cr bk bt bn bw cn ch co ct ci ce cb cj c8 cd dh df bl σ =
 (binOp PP .sub 3 c g).bind fun dt=>
 (binOp PP .geq 3 dt (DV.p (PV.int IntKind.i64 (2)))).bind fun dz=>
 Qh dz
 (
 (binOp PP .add 3 g I1).bind fun ej=>
 f131_L3 G lo a b c d g i ej σ
 )
 (
 f131_J1 G lo a b c d g i j Z L C x y X P N t J E ak ar az T W aa b9 be bp av bc bb bh bm bi bj bu bg bf cm dc br ba cz cc M ck ca bq bz bv c7 cw n cr bk bt bn bw cn ch co ct ci ce cb cj c8 cd dh df bl c g dt dz Z Z Z Z Z Z Z Z Z Z Z Z Z Z Z Z Z Z Z Z Z Z Z Z Z Z Z Z Z Z Z Z Z Z Z Z σ
 ):=by kernel_rfl
theorem f131_L3_gen (G:Qe) (hG:Qo G) (lo:Nat) (N0:Qp->Qa->Option (DV×Qa)) (a b c d g i l:DV) (σ:Qa):Qm G PP (pol 131) CC lo (.loop c131_78) a131_77 (a::b::c::d::zn 5 (g::i::Z::l::zn 128 [])) σ
 (Qf 6 a131_76 (VL N0 (Qf 1 WL (seqC G PP (pol 131) CC lo Vq Vu (QN G PP (pol 131) CC lo Vr VG (Qf 0 VQ (seqC G PP (pol 131) CC lo WY Vb (finR PP Tryz.f131.results.toList)))))))) =
 (binOp PP .lss 3 l c).bind fun ea=>
 Qh ea
 (
 (indexAddr PP 134 a l).bind fun du=>
 (load PP 102 du σ).bind fun di=>
 (binOp PP .sub 3 l I1).bind fun ef=>
 (indexAddr PP 134 a ef).bind fun cg=>
 (load PP 102 cg σ).bind fun ew=>
 (Qg CC d [di,ew] σ).bind fun cq=>
 (binOp PP .lss 3 cq I0).bind fun dq=>
 (unOp .not dq).bind fun ez=>
 Qh ez
 (
 N0 (f131_J1_fr a b c d g i Z Z Z Z Z Z Z Z Z Z Z Z Z Z Z Z Z Z Z Z Z Z Z Z Z Z Z Z Z Z Z Z Z Z Z Z Z Z Z Z Z Z Z Z Z Z Z Z Z Z Z Z Z Z Z Z Z Z Z Z Z Z Z Z Z Z Z Z Z Z Z Z Z Z Z Z Z Z Z Z Z Z Z Z Z Z Z Z Z Z Z Z Z Z Z Z Z Z Z Z Z Z Z Z) σ
 )
 (
 (binOp PP .sub 3 l I1).bind fun de=>
 (binOp PP .sub 3 l I1).bind fun eq=>
 (indexAddr PP 134 a eq).bind fun eg=>
 (load PP 102 eg σ).bind fun eh=>
 (indexAddr PP 134 a l).bind fun en=>
 (load PP 102 en σ).bind fun dy=>
 (indexAddr PP 134 a l).bind fun da=>
 (store PP lo 102 da eh σ).bind fun σ16=>
 (indexAddr PP 134 a de).bind fun dr=>
 (store PP lo 102 dr dy σ16).bind fun σ17=>
 (binOp PP .add 3 l I1).bind fun dx=>
 Qm G PP (pol 131) CC lo (.loop c131_78) a131_77 (a::b::c::d::zn 5 (g::i::Z::dx::zn 128 [])) σ17 (Qf 6 a131_76 (VL N0 (Qf 1 WL (seqC G PP (pol 131) CC lo Vq Vu (QN G PP (pol 131) CC lo Vr VG (Qf 0 VQ (seqC G PP (pol 131) CC lo WY Vb (finR PP Tryz.f131.results.toList))))))))
 )
 )
 (
 N0 (f131_J1_fr a b c d g i Z Z Z Z Z Z Z Z Z Z Z Z Z Z Z Z Z Z Z Z Z Z Z Z Z Z Z Z Z Z Z Z Z Z Z Z Z Z Z Z Z Z Z Z Z Z Z Z Z Z Z Z Z Z Z Z Z Z Z Z Z Z Z Z Z Z Z Z Z Z Z Z Z Z Z Z Z Z Z Z Z Z Z Z Z Z Z Z Z Z Z Z Z Z Z Z Z Z Z Z Z Z Z Z) σ
 ):=(Ql G hG).trans (by kernel_rfl)
theorem f131_L3_eq (G:Qe) (hG:Qo G) (lo:Nat) (a b c d g i l:DV) (σ:Qa):f131_L3 G lo a b c d g i l σ =
 (binOp PP .lss 3 l c).bind fun ea=>
 Qh ea
 (
 (indexAddr PP 134 a l).bind fun du=>
 (load PP 102 du σ).bind fun di=>
 (binOp PP .sub 3 l I1).bind fun ef=>
 (indexAddr PP 134 a ef).bind fun cg=>
 (load PP 102 cg σ).bind fun ew=>
 (Qg CC d [di,ew] σ).bind fun cq=>
 (binOp PP .lss 3 cq I0).bind fun dq=>
 (unOp .not dq).bind fun ez=>
 Qh ez
 (
 f131_J1 G lo a b c d g i Z Z Z Z Z Z Z Z Z Z Z Z Z Z Z Z Z Z Z Z Z Z Z Z Z Z Z Z Z Z Z Z Z Z Z Z Z Z Z Z Z Z Z Z Z Z Z Z Z Z Z Z Z Z Z Z Z Z Z Z Z Z Z Z Z Z Z Z Z Z Z Z Z Z Z Z Z Z Z Z Z Z Z Z Z Z Z Z Z Z Z Z Z Z Z Z Z Z Z Z Z Z Z Z σ
 )
 (
 (binOp PP .sub 3 l I1).bind fun de=>
 (binOp PP .sub 3 l I1).bind fun eq=>
 (indexAddr PP 134 a eq).bind fun eg=>
 (load PP 102 eg σ).bind fun eh=>
 (indexAddr PP 134 a l).bind fun en=>
 (load PP 102 en σ).bind fun dy=>
 (indexAddr PP 134 a l).bind fun da=>
 (store PP lo 102 da eh σ).bind fun σ16=>
 (indexAddr PP 134 a de).bind fun dr=>
 (store PP lo 102 dr dy σ16).bind fun σ17=>
 (binOp PP .add 3 l I1).bind fun dx=>
 f131_L3 G lo a b c d g i dx σ17
 )
 )
 (
 f131_J1 G lo a b c d g i Z Z Z Z Z Z Z Z Z Z Z Z Z Z Z Z Z Z Z Z Z Z Z Z Z Z Z Z Z Z Z Z Z Z Z Z Z Z Z Z Z Z Z Z Z Z Z Z Z Z Z Z Z Z Z Z Z Z Z Z Z Z Z Z Z Z Z Z Z Z Z Z Z Z Z Z Z Z Z Z Z Z Z Z Z Z Z Z Z Z Z Z Z Z Z Z Z Z Z Z Z Z Z Z σ
 ):=by
 have h:=f131_L3_gen (N0:=(Qf 1 WL (seqC G PP (pol 131) CC lo Vq Vu (QN G PP (pol 131) CC lo Vr VG (Qf 0 VQ (seqC G PP (pol 131) CC lo WY Vb (finR PP Tryz.f131.results.toList)))))) .normal) G hG lo a b c d g i l σ
 simp only [WG] at h
 exact h
theorem f131_J1_eq (G:Qe) (lo:Nat) (a b c d g i j l L C x y X P N t J E ak ar az T W aa b9 be bp av bc bb bh bm bi bj bu bg bf cm dc br ba cz cc M ck ca bq bz bv c7 cw n cr bk bt bn bw cn ch co ct ci ce cb cj c8 cd dh df bl dl ei dt dz dm ej dk dj ea dd dx am c9 ek du di cp eu ef cg ew cq dq ez cu ee f5 db de dw f6 eq eg eh f0 dg en dy da dr:DV) (σ:Qa):f131_J1 G lo a b c d g i j l L C x y X P N t J E ak ar az T W aa b9 be bp av bc bb bh bm bi bj bu bg bf cm dc br ba cz cc M ck ca bq bz bv c7 cw n cr bk bt bn bw cn ch co ct ci ce cb cj c8 cd dh df bl dl ei dt dz dm ej dk dj ea dd dx am c9 ek du di cp eu ef cg ew cq dq ez cu ee f5 db de dw f6 eq eg eh f0 dg en dy da dr σ =
 (binOp PP .add 3 i I1).bind fun af=>
 f131_L0 G lo a b c d g af σ:=by kernel_rfl
theorem F131_eq (G:Qe) (lo:Nat) (a b c d:DV) (σ:Qa):F131 G lo a b c d σ =
 (binOp PP .add 3 b I1).bind fun w=>
 f131_L0 G lo a b c d w I0 σ:=by kernel_rfl
theorem F131_call {lo:Nat} {a b c d:DV} (h:F131 Qb lo a b c d σ=some r):CC lo 131 [a,b,c,d] σ=some r:=
 callL_run Tryz.func131 (by decide +kernel) rfl (by decide +kernel) h
def c132_0:Code:=Qs Tryz.f132
def a132_0:Ann:=(pol 132).ann
def a132_7:Ann:=left (right (right (right a132_0)))
def a132_8:Ann:=left a132_7
def c132_9:Code:=fstC (fstC (fstC (sndC (sndC (sndC c132_0)))))
def a132_9:Ann:=left a132_8
def a132_11:Ann:=left (left a132_9)
def a132_12:Ann:=left a132_11
def c132_13:Code:=fstC (fstC (fstC (fstC c132_9)))
def c132_21:Code:=sndC (fstC c132_9)
def a132_21:Ann:=right (left a132_9)
def a132_22:Ann:=left a132_21
def a132_23:Ann:=left a132_22
def c132_24:Code:=fstC (fstC (fstC c132_21))
def c132_32:Code:=sndC c132_21
def a132_32:Ann:=right a132_21
def c132_43:Code:=sndC (sndC (sndC (sndC c132_0)))
def a132_43:Ann:=right (right (right (right a132_0)))
def f132_L0 (a b f j l:DV) (σ:Qa):RS:=
 Qm G PP (pol 132) CC lo (.loop c132_9) a132_8 (a::b::Z::Z::f::zn 6 (j::l::zn 77 [])) σ
 (Qf 0 a132_7 (seqC G PP (pol 132) CC lo c132_43 a132_43 (finR PP Tryz.f132.results.toList)))
def f132_L1 (a b f j l:DV) (σ:Qa):RS:=
 Qm G PP (pol 132) CC lo (.loop c132_13) a132_12 (a::b::Z::Z::f::zn 6 (j::l::zn 77 [])) σ
 (Qf 2 a132_11 (seqC G PP (pol 132) CC lo c132_21 a132_21 (Qf 1 a132_9 (QN G PP (pol 132) CC lo c132_9 a132_8 (Qf 0 a132_7 (seqC G PP (pol 132) CC lo c132_43 a132_43 (finR PP Tryz.f132.results.toList)))))))
def f132_L2 (a b f j l:DV) (σ:Qa):RS:=
 Qm G PP (pol 132) CC lo (.loop c132_24) a132_23 (a::b::Z::Z::f::zn 6 (j::l::zn 77 [])) σ
 (Qf 4 a132_22 (seqC G PP (pol 132) CC lo c132_32 a132_32 (Qf 1 a132_9 (QN G PP (pol 132) CC lo c132_9 a132_8 (Qf 0 a132_7 (seqC G PP (pol 132) CC lo c132_43 a132_43 (finR PP Tryz.f132.results.toList)))))))
def F132 (a b c d f:DV) (σ:Qa):RS:=
 Qm G PP (pol 132) CC lo c132_0 a132_0 (a::b::c::d::f::zn 85 []) σ (finR PP Tryz.f132.results.toList)
theorem f132_L0_eq (G:Qe) (hG:Qo G) (lo:Nat) (a b f j l:DV) (σ:Qa):f132_L0 G lo a b f j l σ =
 f132_L1 G lo a b f j l σ:=(Ql G hG).trans (by kernel_rfl)
theorem f132_L1_eq (G:Qe) (hG:Qo G) (lo:Nat) (a b f j l:DV) (σ:Qa):f132_L1 G lo a b f j l σ =
 (binOp PP .leq 3 j l).bind fun ae=>
 G _ ae true (some (f,σ)) σ fun ai σ3=>
 G _ ae true (some (a,σ3)) σ3 fun aj σ4=>
 G _ ae true (some (b,σ4)) σ4 fun aq σ5=>
 Gp G ae true (indexAddr PP 134 aj aq) σ5 fun Y σ6=>
 Gp G ae true (load PP 102 Y σ6) σ6 fun L σ7=>
 G _ ae true (some (a,σ7)) σ7 fun C σ8=>
 G _ ae true (some (j,σ8)) σ8 fun x σ9=>
 Gp G ae true (indexAddr PP 134 C x) σ9 fun y σ10=>
 Gp G ae true (load PP 102 y σ10) σ10 fun X σ11=>
 Gp G ae true (Qg CC ai [L,X] σ11) σ11 fun P σ12=>
 Gp G ae true (binOp PP .lss 3 P I0) σ12 fun N σ13=>
 Gp G ae true (unOp .not N) σ13 fun t σ14=>
 (Qt ae t (DV.p (PV.bool false))).bind fun J=>
 Qh J
 (
 (binOp PP .add 3 j I1).bind fun ak=>
 f132_L1 G lo a b f ak l σ14
 )
 (
 f132_L2 G lo a b f j l σ14
 ):=(Ql G hG).trans (by kernel_rfl)
theorem f132_L2_eq (G:Qe) (hG:Qo G) (lo:Nat) (a b f j l:DV) (σ:Qa):f132_L2 G lo a b f j l σ =
 (binOp PP .leq 3 j l).bind fun T=>
 G _ T true (some (f,σ)) σ fun aa σ15=>
 G _ T true (some (a,σ15)) σ15 fun b9 σ16=>
 G _ T true (some (b,σ16)) σ16 fun be σ17=>
 Gp G T true (indexAddr PP 134 b9 be) σ17 fun bp σ18=>
 Gp G T true (load PP 102 bp σ18) σ18 fun av σ19=>
 G _ T true (some (a,σ19)) σ19 fun bc σ20=>
 G _ T true (some (l,σ20)) σ20 fun bb σ21=>
 Gp G T true (indexAddr PP 134 bc bb) σ21 fun bh σ22=>
 Gp G T true (load PP 102 bh σ22) σ22 fun bm σ23=>
 Gp G T true (Qg CC aa [av,bm] σ23) σ23 fun bi σ24=>
 Gp G T true (binOp PP .lss 3 bi I0) σ24 fun bj σ25=>
 (Qt T bj (DV.p (PV.bool false))).bind fun bu=>
 Qh bu
 (
 (binOp PP .sub 3 l I1).bind fun bf=>
 f132_L2 G lo a b f j bf σ25
 )
 (
 (binOp PP .gtr 3 j l).bind fun br=>
 Qh br
 (
 some (j,σ25)
 )
 (
 (indexAddr PP 134 a l).bind fun bq=>
 (load PP 102 bq σ25).bind fun bz=>
 (indexAddr PP 134 a j).bind fun cw=>
 (load PP 102 cw σ25).bind fun n=>
 (indexAddr PP 134 a j).bind fun cr=>
 (store PP lo 102 cr bz σ25).bind fun σ26=>
 (indexAddr PP 134 a l).bind fun bk=>
 (store PP lo 102 bk n σ26).bind fun σ27=>
 (binOp PP .add 3 j I1).bind fun bn=>
 (binOp PP .sub 3 l I1).bind fun cn=>
 f132_L0 G lo a b f bn cn σ27
 )
 ):=(Ql G hG).trans (by kernel_rfl)
theorem F132_eq (G:Qe) (lo:Nat) (a b c d f:DV) (σ:Qa):F132 G lo a b c d f σ =
 (indexAddr PP 134 a d).bind fun b8=>
 (load PP 102 b8 σ).bind fun Q=>
 (indexAddr PP 134 a b).bind fun z=>
 (load PP 102 z σ).bind fun K=>
 (indexAddr PP 134 a b).bind fun A=>
 (store PP lo 102 A Q σ).bind fun σ1=>
 (indexAddr PP 134 a d).bind fun ac=>
 (store PP lo 102 ac K σ1).bind fun σ2=>
 (binOp PP .add 3 b I1).bind fun au=>
 (binOp PP .sub 3 c I1).bind fun aw=>
 f132_L0 G lo a b f au aw σ2:=by kernel_rfl
theorem F132_call {lo:Nat} {a b c d f:DV} (h:F132 Qb lo a b c d f σ=some r):CC lo 132 [a,b,c,d,f] σ=some r:=
 callL_run Tryz.func132 (by decide +kernel) rfl (by decide +kernel) h
def c133_0:Code:=Qs Tryz.f133
def a133_0:Ann:=(pol 133).ann
def a133_7:Ann:=left (right (right (right a133_0)))
def a133_8:Ann:=left a133_7
def c133_9:Code:=fstC (fstC (fstC (sndC (sndC (sndC c133_0)))))
def c133_17:Code:=sndC (sndC (sndC (sndC c133_0)))
def a133_17:Ann:=right (right (right (right a133_0)))
def a133_18:Ann:=left a133_17
def a133_19:Ann:=left a133_18
def c133_20:Code:=fstC (fstC (fstC c133_17))
def c133_28:Code:=sndC c133_17
def a133_28:Ann:=right a133_17
def a133_45:Ann:=left (right (right (right (right a133_28))))
def a133_46:Ann:=left a133_45
def c133_47:Code:=fstC (fstC (fstC (sndC (sndC (sndC (sndC c133_28))))))
def a133_47:Ann:=left a133_46
def a133_49:Ann:=left (left a133_47)
def a133_50:Ann:=left a133_49
def c133_51:Code:=fstC (fstC (fstC (fstC c133_47)))
def c133_59:Code:=sndC (fstC c133_47)
def a133_59:Ann:=right (left a133_47)
def a133_60:Ann:=left a133_59
def a133_61:Ann:=left a133_60
def c133_62:Code:=fstC (fstC (fstC c133_59))
def c133_70:Code:=sndC c133_59
def a133_70:Ann:=right a133_59
def c133_81:Code:=sndC (sndC (sndC (sndC (sndC c133_28))))
def a133_81:Ann:=right (right (right (right (right a133_28))))
def f133_L0 (a b f l q:DV) (σ:Qa):RS:=
 Qm G PP (pol 133) CC lo (.loop c133_9) a133_8 (a::b::Z::Z::f::zn 7 (l::q::zn 164 [])) σ
 (Qf 0 a133_7 (seqC G PP (pol 133) CC lo c133_17 a133_17 (finR PP Tryz.f133.results.toList)))
def f133_L1 (a b f l q:DV) (σ:Qa):RS:=
 Qm G PP (pol 133) CC lo (.loop c133_20) a133_19 (a::b::Z::Z::f::zn 7 (l::q::zn 164 [])) σ
 (Qf 2 a133_18 (seqC G PP (pol 133) CC lo c133_28 a133_28 (finR PP Tryz.f133.results.toList)))
def f133_L2 (a b f l q:DV) (σ:Qa):RS:=
 Qm G PP (pol 133) CC lo (.loop c133_47) a133_46 (a::b::Z::Z::f::zn 7 (l::q::zn 164 [])) σ
 (Qf 4 a133_45 (seqC G PP (pol 133) CC lo c133_81 a133_81 (finR PP Tryz.f133.results.toList)))
def f133_L3 (a b f l q:DV) (σ:Qa):RS:=
 Qm G PP (pol 133) CC lo (.loop c133_51) a133_50 (a::b::Z::Z::f::zn 7 (l::q::zn 164 [])) σ
 (Qf 6 a133_49 (seqC G PP (pol 133) CC lo c133_59 a133_59 (Qf 5 a133_47 (QN G PP (pol 133) CC lo c133_47 a133_46 (Qf 4 a133_45 (seqC G PP (pol 133) CC lo c133_81 a133_81 (finR PP Tryz.f133.results.toList)))))))
def f133_L4 (a b f l q:DV) (σ:Qa):RS:=
 Qm G PP (pol 133) CC lo (.loop c133_62) a133_61 (a::b::Z::Z::f::zn 7 (l::q::zn 164 [])) σ
 (Qf 8 a133_60 (seqC G PP (pol 133) CC lo c133_70 a133_70 (Qf 5 a133_47 (QN G PP (pol 133) CC lo c133_47 a133_46 (Qf 4 a133_45 (seqC G PP (pol 133) CC lo c133_81 a133_81 (finR PP Tryz.f133.results.toList)))))))
def F133 (a b c d f:DV) (σ:Qa):RS:=
 Qm G PP (pol 133) CC lo c133_0 a133_0 (a::b::c::d::f::zn 173 []) σ (finR PP Tryz.f133.results.toList)
theorem f133_L0_eq (G:Qe) (hG:Qo G) (lo:Nat) (a b f l q:DV) (σ:Qa):f133_L0 G lo a b f l q σ =
 (binOp PP .leq 3 l q).bind fun V=>
 G _ V true (some (f,σ)) σ fun aj σ3=>
 G _ V true (some (a,σ3)) σ3 fun aq σ4=>
 G _ V true (some (l,σ4)) σ4 fun Y σ5=>
 Gp G V true (indexAddr PP 134 aq Y) σ5 fun L σ6=>
 Gp G V true (load PP 102 L σ6) σ6 fun C σ7=>
 G _ V true (some (a,σ7)) σ7 fun x σ8=>
 G _ V true (some (b,σ8)) σ8 fun y σ9=>
 Gp G V true (indexAddr PP 134 x y) σ9 fun X σ10=>
 Gp G V true (load PP 102 X σ10) σ10 fun P σ11=>
 Gp G V true (Qg CC aj [C,P] σ11) σ11 fun N σ12=>
 Gp G V true (binOp PP .lss 3 N I0) σ12 fun t σ13=>
 (Qt V t (DV.p (PV.bool false))).bind fun J=>
 Qh J
 (
 (binOp PP .add 3 l I1).bind fun ak=>
 f133_L0 G lo a b f ak q σ13
 )
 (
 f133_L1 G lo a b f l q σ13
 ):=(Ql G hG).trans (by kernel_rfl)
theorem f133_L1_eq (G:Qe) (hG:Qo G) (lo:Nat) (a b f l q:DV) (σ:Qa):f133_L1 G lo a b f l q σ =
 (binOp PP .leq 3 l q).bind fun T=>
 G _ T true (some (f,σ)) σ fun aa σ14=>
 G _ T true (some (a,σ14)) σ14 fun b9 σ15=>
 G _ T true (some (q,σ15)) σ15 fun be σ16=>
 Gp G T true (indexAddr PP 134 b9 be) σ16 fun bp σ17=>
 Gp G T true (load PP 102 bp σ17) σ17 fun av σ18=>
 G _ T true (some (a,σ18)) σ18 fun bc σ19=>
 G _ T true (some (b,σ19)) σ19 fun bb σ20=>
 Gp G T true (indexAddr PP 134 bc bb) σ20 fun bh σ21=>
 Gp G T true (load PP 102 bh σ21) σ21 fun bm σ22=>
 Gp G T true (Qg CC aa [av,bm] σ22) σ22 fun bi σ23=>
 Gp G T true (binOp PP .lss 3 bi I0) σ23 fun bj σ24=>
 Gp G T true (unOp .not bj) σ24 fun bu σ25=>
 (Qt T bu (DV.p (PV.bool false))).bind fun bg=>
 Qh bg
 (
 (binOp PP .sub 3 q I1).bind fun cm=>
 f133_L1 G lo a b f l cm σ25
 )
 (
 (binOp PP .gtr 3 l q).bind fun ba=>
 Qh ba
 (
 (indexAddr PP 134 a b).bind fun bz=>
 (load PP 102 bz σ25).bind fun bv=>
 (indexAddr PP 134 a q).bind fun n=>
 (load PP 102 n σ25).bind fun cr=>
 (indexAddr PP 134 a q).bind fun bk=>
 (store PP lo 102 bk bv σ25).bind fun σ26=>
 (indexAddr PP 134 a b).bind fun bt=>
 (store PP lo 102 bt cr σ26).bind fun σ27=>
 some ((DV.tuple [q,(DV.p (PV.bool true))]),σ27)
 )
 (
 (indexAddr PP 134 a q).bind fun ce=>
 (load PP 102 ce σ25).bind fun cb=>
 (indexAddr PP 134 a l).bind fun cd=>
 (load PP 102 cd σ25).bind fun dh=>
 (indexAddr PP 134 a l).bind fun df=>
 (store PP lo 102 df cb σ25).bind fun σ28=>
 (indexAddr PP 134 a q).bind fun bl=>
 (store PP lo 102 bl dh σ28).bind fun σ29=>
 (binOp PP .add 3 l I1).bind fun ei=>
 (binOp PP .sub 3 q I1).bind fun dz=>
 f133_L2 G lo a b f ei dz σ29
 )
 ):=(Ql G hG).trans (by kernel_rfl)
theorem f133_L2_eq (G:Qe) (hG:Qo G) (lo:Nat) (a b f l q:DV) (σ:Qa):f133_L2 G lo a b f l q σ =
 f133_L3 G lo a b f l q σ:=(Ql G hG).trans (by kernel_rfl)
theorem f133_L3_eq (G:Qe) (hG:Qo G) (lo:Nat) (a b f l q:DV) (σ:Qa):f133_L3 G lo a b f l q σ =
 (binOp PP .leq 3 l q).bind fun dk=>
 G _ dk true (some (f,σ)) σ fun ea σ30=>
 G _ dk true (some (a,σ30)) σ30 fun dd σ31=>
 G _ dk true (some (l,σ31)) σ31 fun dx σ32=>
 Gp G dk true (indexAddr PP 134 dd dx) σ32 fun am σ33=>
 Gp G dk true (load PP 102 am σ33) σ33 fun c9 σ34=>
 G _ dk true (some (a,σ34)) σ34 fun ek σ35=>
 G _ dk true (some (b,σ35)) σ35 fun du σ36=>
 Gp G dk true (indexAddr PP 134 ek du) σ36 fun di σ37=>
 Gp G dk true (load PP 102 di σ37) σ37 fun cp σ38=>
 Gp G dk true (Qg CC ea [c9,cp] σ38) σ38 fun eu σ39=>
 Gp G dk true (binOp PP .lss 3 eu I0) σ39 fun ef σ40=>
 (Qt dk ef (DV.p (PV.bool false))).bind fun cg=>
 Qh cg
 (
 (binOp PP .add 3 l I1).bind fun cq=>
 f133_L3 G lo a b f cq q σ40
 )
 (
 f133_L4 G lo a b f l q σ40
 ):=(Ql G hG).trans (by kernel_rfl)
theorem f133_L4_eq (G:Qe) (hG:Qo G) (lo:Nat) (a b f l q:DV) (σ:Qa):f133_L4 G lo a b f l q σ =
 (binOp PP .leq 3 l q).bind fun cu=>
 G _ cu true (some (f,σ)) σ fun f5 σ41=>
 G _ cu true (some (a,σ41)) σ41 fun db σ42=>
 G _ cu true (some (q,σ42)) σ42 fun de σ43=>
 Gp G cu true (indexAddr PP 134 db de) σ43 fun dw σ44=>
 Gp G cu true (load PP 102 dw σ44) σ44 fun f6 σ45=>
 G _ cu true (some (a,σ45)) σ45 fun eq σ46=>
 G _ cu true (some (b,σ46)) σ46 fun eg σ47=>
 Gp G cu true (indexAddr PP 134 eq eg) σ47 fun eh σ48=>
 Gp G cu true (load PP 102 eh σ48) σ48 fun f0 σ49=>
 Gp G cu true (Qg CC f5 [f6,f0] σ49) σ49 fun dg σ50=>
 Gp G cu true (binOp PP .lss 3 dg I0) σ50 fun en σ51=>
 Gp G cu true (unOp .not en) σ51 fun dy σ52=>
 (Qt cu dy (DV.p (PV.bool false))).bind fun da=>
 Qh da
 (
 (binOp PP .sub 3 q I1).bind fun fi=>
 f133_L4 G lo a b f l fi σ52
 )
 (
 (binOp PP .gtr 3 l q).bind fun f7=>
 Qh f7
 (
 (indexAddr PP 134 a b).bind fun fh=>
 (load PP 102 fh σ52).bind fun f8=>
 (indexAddr PP 134 a q).bind fun ga=>
 (load PP 102 ga σ52).bind fun fe=>
 (indexAddr PP 134 a q).bind fun gj=>
 (store PP lo 102 gj f8 σ52).bind fun σ53=>
 (indexAddr PP 134 a b).bind fun gb=>
 (store PP lo 102 gb fe σ53).bind fun σ54=>
 some ((DV.tuple [q,(DV.p (PV.bool false))]),σ54)
 )
 (
 (indexAddr PP 134 a q).bind fun fm=>
 (load PP 102 fm σ52).bind fun fo=>
 (indexAddr PP 134 a l).bind fun fa=>
 (load PP 102 fa σ52).bind fun fb=>
 (indexAddr PP 134 a l).bind fun fg=>
 (store PP lo 102 fg fo σ52).bind fun σ55=>
 (indexAddr PP 134 a q).bind fun fz=>
 (store PP lo 102 fz fb σ55).bind fun σ56=>
 (binOp PP .add 3 l I1).bind fun fc=>
 (binOp PP .sub 3 q I1).bind fun ft=>
 f133_L2 G lo a b f fc ft σ56
 )
 ):=(Ql G hG).trans (by kernel_rfl)
theorem F133_eq (G:Qe) (lo:Nat) (a b c d f:DV) (σ:Qa):F133 G lo a b c d f σ =
 (indexAddr PP 134 a d).bind fun Q=>
 (load PP 102 Q σ).bind fun u=>
 (indexAddr PP 134 a b).bind fun K=>
 (load PP 102 K σ).bind fun A=>
 (indexAddr PP 134 a b).bind fun ac=>
 (store PP lo 102 ac u σ).bind fun σ1=>
 (indexAddr PP 134 a d).bind fun U=>
 (store PP lo 102 U A σ1).bind fun σ2=>
 (binOp PP .add 3 b I1).bind fun S=>
 (binOp PP .sub 3 c I1).bind fun B=>
 f133_L0 G lo a b f S B σ2:=by kernel_rfl
theorem F133_call {lo:Nat} {a b c d f:DV} (h:F133 Qb lo a b c d f σ=some r):CC lo 133 [a,b,c,d,f] σ=some r:=
 callL_run Tryz.func133 (by decide +kernel) rfl (by decide +kernel) h
end
end Go.D
end
/- Sorting by the library's pdqsort over elements of type 102: the program's functions do what Go.D.Srt says. -/
section
set_option linter.unusedVariables false
set_option linter.unusedSimpArgs false
namespace Go.D.StS
open Go.D.Srt
abbrev E:Type:=Int×Int
def cel (e:E):List DV:=[.p (.int .i64 e.1),.p (.int .i64 e.2)]
def val (e:E):DV:=.agg (cel e)
def cels (A:List E):List DV:=A.flatMap cel
theorem ZH (e:E):(cel e).length=2:=rfl
theorem cel_one (e:E):(cel e).all DV.one=true:=rfl
theorem WP (A:List E):(cels A).length=A.length*2:=by
 induction A with
 | nil=>rfl
 | cons a A ih=>
  have e:cels (a::A)=cel a++cels A:=rfl
  rw [e,List.length_append,ih,ZH,List.length_cons]; omega
theorem cels_app (A B:List E):cels (A++B)=cels A++cels B:=by simp [cels]
theorem Ur {A:List E} {i:Nat} (h:i<A.length):cels A=cels (A.take i)++(cel (ge A i)++cels (A.drop (i+1))):=by
 have e1:A=A.take i++(ge A i::A.drop (i+1)):=by
  have e2:ge A i=A[i]:=by unfold ge; rw [List.getD_eq_getElem?_getD,List.getElem?_eq_getElem h]; rfl
  rw [e2,<-List.drop_eq_getElem_cons h,List.take_append_drop]
 have e3:cels (ge A i::A.drop (i+1))=cel (ge A i)++cels (A.drop (i+1)):=rfl
 rw [<-e3,<-cels_app,<-e1]
theorem Wu {A:List E} {i:Nat} (h:i<A.length):(cels (A.take i)).length=i*2:=by
 rw [WP,List.length_take,Nat.min_eq_left (by omega)]
theorem cels_get {A:List E} {i:Nat} (h:i<A.length):((cels A).drop (i*2)).take 2=cel (ge A i):=by
 rw [Ur h,<-Wu h,List.drop_left,List.take_append_of_le_length (by rw [ZH]; exact Nat.le_refl _),List.take_of_length_le (by rw [ZH]; exact Nat.le_refl _)]
theorem cels_set {A:List E} {i:Nat} (h:i<A.length) (v:E):QS (cels A) (i*2) (cel v)=cels (A.set i v):=by
 have h2:i<(A.set i v).length:=by rw [List.length_set]; exact h
 rw [Ur h2,ge_set h,if_pos rfl,List.take_set_of_le (Nat.le_refl _),List.drop_set_of_lt (by omega)]
 unfold QS
 rw [Ur h,List.take_append_of_le_length (by rw [Wu h]; exact Nat.le_refl _),List.take_of_length_le (by rw [Wu h]; exact Nat.le_refl _),List.append_assoc]
 congr 2
 rw [<-List.append_assoc,List.drop_append_of_le_length (by rw [List.length_append,Wu h,ZH,ZH]; exact Nat.le_refl _),List.drop_of_length_le (by rw [List.length_append,Wu h,ZH,ZH]; exact Nat.le_refl _),List.nil_append]
def W (σ:Qa) (r:Nat) (A:List E):Qa:=σ.set r (.mix (cels A))
theorem Jk {σ:Qa} {r:Nat} (hr:r<σ.length) (A:List E):(W σ r A)[r]?=some (.mix (cels A)):=by rw [W,List.getElem?_set_self hr]
theorem W_eq {σ:Qa} {r:Nat} {A:List E} (h:σ[r]?=some (.mix (cels A))):W σ r A=σ:=by
 refine List.ext_getElem? fun i=>?_
 rw [W]
 by_cases e:r=i
 ·subst e; rw [List.getElem?_set_self (QT h),h]
 ·rw [List.getElem?_set_ne e]
theorem W_len (σ:Qa) (r:Nat) (A:List E):(W σ r A).length=σ.length:=by simp [W]
theorem W_snoc {σ:Qa} {r:Nat} (hr:r<σ.length) (A:List E) (row:Row):W σ r A++[row]=W (σ++[row]) r A:=by
 rw [W,W,List.set_append_left _ _ hr]
theorem uL:PP.underlying 134=some (.slice 102):=Eq.trans (by kernel_rfl) rfl
theorem sE:size? PP 102=some 2:=Eq.trans (by kernel_rfl) rfl
theorem loadE (x:DV) (σ:Qa):load PP 102 x σ=(Wl σ 2 x).map .agg:=Eq.trans (by kernel_rfl) rfl
theorem idxL {r n i:Nat} (h:i<n):indexAddr PP 134 (.rsl r 2 0 n) (.p (pI (i:Nat)))=some (.ptr r (i*2)):=by
 have h2:(0:Int)<=(i:Int)/\(i:Int)<(n:Nat):=by omega
 simp [indexAddr,uL,sE,h2]
theorem ldW {σ:Qa} {r i:Nat} {A:List E} (hr:r<σ.length) (h:i<A.length):load PP 102 (.ptr r (i*2)) (W σ r A)=some (val (ge A i)):=by
 rw [loadE,QI (Jk hr A) (cels_get h) (by rw [WP]; omega)]; rfl
theorem stW {σ:Qa} {r i lo:Nat} {A:List E} (hr:r<σ.length) (h:i<A.length) (hlo:lo<=r) (v:E):store PP lo 102 (.ptr r (i*2)) (val v) (W σ r A)=some (W σ r (A.set i v)):=by
 have e1:(val v).cells=cel v:=rfl
 have e2:i*2+2<=(cels A).length:=by rw [WP]; omega
 simp only [store,sE,e1,ZH,if_true,Zo,hlo,Jk hr,cel_one,e2,decide_true,Bool.and_self,cels_set h]
 rw [W,W,List.set_set]
theorem QW (A:List E) (i:Nat) (v:E):(A.set i v).length=A.length:=List.length_set
theorem add1 {a:Nat} (h:a<=1000000):binOp PP .add 3 (.p (.int .i64 (a:Nat))) (.p (.int .i64 1))=some (.p (.int .i64 ((a+1:Nat):Int))):=by
 rw [Wa,QE (by omega) (by omega)]; rfl
theorem sub1 {a:Nat} (h0:0<a) (h:a<=1000000):binOp PP .sub 3 (.p (.int .i64 (a:Nat))) (.p (.int .i64 1))=some (.p (.int .i64 ((a-1:Nat):Int))):=by
 rw [WD,QE (by omega) (by omega)]
 congr 3
 omega
theorem addN {a b:Nat} (h:a+b<=1000000):binOp PP .add 3 (.p (.int .i64 (a:Nat))) (.p (.int .i64 (b:Nat)))=some (.p (.int .i64 ((a+b:Nat):Int))):=by
 rw [Wa,QE (by omega) (by omega)]; rfl
theorem subN {a b:Nat} (h0:b<=a) (h:a<=1000000):binOp PP .sub 3 (.p (.int .i64 (a:Nat))) (.p (.int .i64 (b:Nat)))=some (.p (.int .i64 ((a-b:Nat):Int))):=by
 rw [WD,QE (by omega) (by omega)]
 congr 3
 omega
theorem mul2 {a:Nat} (h:a<=1000000):binOp PP .mul 3 (.p (.int .i64 2)) (.p (.int .i64 (a:Nat)))=some (.p (.int .i64 ((2*a:Nat):Int))):=by
 rw [b_mul,QE (by omega) (by omega)]
 congr 3
theorem ltT {a b:Int} (h:a<b):decide (a<b)=true:=decide_eq_true h
theorem ltF {a b:Int} (h:¬ a<b):decide (a<b)=false:=decide_eq_false h
theorem leT {a b:Int} (h:a<=b):decide (a<=b)=true:=decide_eq_true h
theorem leF {a b:Int} (h:¬ a<=b):decide (a<=b)=false:=decide_eq_false h
theorem gtT {a b:Int} (h:a>b):decide (a>b)=true:=decide_eq_true h
theorem gtF {a b:Int} (h:¬ a>b):decide (a>b)=false:=decide_eq_false h
theorem geT {a b:Int} (h:a>=b):decide (a>=b)=true:=decide_eq_true h
theorem geF {a b:Int} (h:¬ a>=b):decide (a>=b)=false:=decide_eq_false h
theorem eqT {a b:Int} (h:a=b):decide (a=b)=true:=decide_eq_true h
theorem eqF {a b:Int} (h:¬ a=b):decide (a=b)=false:=decide_eq_false h
section
variable {cf : FuncId} {cmp : E -> E -> Int} (hc : ∀ (x y : E) (σ : Qa), Qv CC cf [val x, val y] σ = some (.p (.int .i64 (cmp x y))))
variable {r n lo : Nat} {σ : Qa}
def ltc (cmp:E->E->Int) (x y:E):Bool:=decide (cmp x y<0)
abbrev V (r n:Nat):DV:=.rsl r 2 0 n
abbrev N (i:Nat):DV:=.p (.int .i64 (i:Int))
include hc in
theorem ins_L1 (hr:r<σ.length) (hlo:lo<=r) (hn:n<=100000) {a b i:Nat} (hi:i<=100000):∀ (j:Nat) (A:List E),a<=j->j<n->A.length=n->
  f126_L1 Qb lo (V r n) (N a) (N b) (.fn cf []) (N i) (N j) (W σ r A)=f126_L0 Qb lo (V r n) (N a) (N b) (.fn cf []) (N (i+1)) (W σ r (Zb (ltc cmp) a j A))
 | 0,A,ha,hj,hA=>by
  rw [f126_L1_eq Qb rfl]
  simp (disch:=omega) only [V,N,Zh,gtF,gG,add1,Zb]
 | j+1,A,ha,hj,hA=>by
  rw [f126_L1_eq Qb rfl]
  by_cases h1:a<j+1
  ·by_cases h2:cmp (ge A (j+1)) (ge A j)<0
   ·have ih:=ins_L1 hr hlo hn (a:=a) (b:=b) hi j (swp A (j+1) j) (by omega) (by omega) (by rw [Qy]; exact hA)
    have e:Zb (ltc cmp) a (j+1) A=Zb (ltc cmp) a j (swp A (j+1) j):=by
     rw [Zb,if_pos ⟨h1,decide_eq_true h2⟩]
    have h3:(A.set (j+1) (ge A j)).length=n:=by rw [QW]; exact hA
    rw [e,<-ih]
    simp (disch:=omega) only [V,N,Zh,gtT,gG,sub1,idxL,ldW,Nat.add_sub_cancel,Qi,List.append_nil,hc,Qn,ltT,stW,swp]
   ·have e:Zb (ltc cmp) a (j+1) A=A:=by
     rw [Zb,if_neg (fun h=>h2 (of_decide_eq_true h.2))]
    rw [e]
    simp (disch:=omega) only [V,N,Zh,gtT,gG,sub1,idxL,ldW,Nat.add_sub_cancel,Qi,List.append_nil,hc,Qn,ltF,add1]
  ·have e:Zb (ltc cmp) a (j+1) A=A:=by
    rw [Zb,if_neg (fun h=>h1 h.1)]
   rw [e]
   simp (disch:=omega) only [V,N,Zh,gtF,gG,add1]
theorem Vm (lt:E->E->Bool) (a:Nat):∀ (j:Nat) (A:List E),(Zb lt a j A).length=A.length
 | 0,A=>rfl
 | j+1,A=>by
  unfold Zb
  split
  ·rw [Vm lt a j,Qy]
  ·rfl
include hc in
theorem ins_L0 (hr:r<σ.length) (hlo:lo<=r) (hn:n<=100000) {a b:Nat} (hb:b<=n):∀ (k i:Nat) (A:List E),b-i=k->a<=i->A.length=n->
  f126_L0 Qb lo (V r n) (N a) (N b) (.fn cf []) (N i) (W σ r A)=some (.tuple [],W σ r (Vl (ltc cmp) a (b-i) i A))
 | 0,i,A,hk,ha,hA=>by
  rw [f126_L0_eq Qb rfl,hk]
  simp (disch:=omega) only [V,N,Qn,ltF,gG,Vl]
 | k+1,i,A,hk,ha,hA=>by
  rw [f126_L0_eq Qb rfl]
  have h:=ins_L1 hc hr hlo hn (a:=a) (b:=b) (i:=i) (by omega) i A ha (by omega) hA
  have ih:=ins_L0 hr hlo hn (a:=a) hb k (i+1) (Zb (ltc cmp) a i A) (by omega) (by omega) (by rw [Vm]; exact hA)
  have e:Vl (ltc cmp) a (b-i) i A=Vl (ltc cmp) a (b-(i+1)) (i+1) (Zb (ltc cmp) a i A):=by
   rw [show b-i=(b-(i+1))+1 by omega,Vl]
  rw [e,<-ih,<-h]
  simp (disch:=omega) only [V,N,Qn,ltT,gG]
include hc in
theorem ins_ok (hr:r<σ.length) (hlo:lo<=r) (hn:n<=100000) {a b:Nat} (hb:b<=n) (ha:a<=n) (A:List E) (hA:A.length=n) :
  CC lo 126 [V r n,N a,N b,.fn cf []] (W σ r A)=some (.tuple [],W σ r (Vl (ltc cmp) a (b-(a+1)) (a+1) A)):=by
 refine F126_call ?_
 rw [F126_eq]
 simp (disch:=omega) only [N,add1,gG]
 exact ins_L0 hc hr hlo hn hb _ (a+1) A rfl (by omega) hA
end
end Go.D.StS
end
/- Heap sort over elements of type 102. -/
section
set_option linter.unusedVariables false
set_option linter.unusedSimpArgs false
namespace Go.D.StS
open Go.D.Srt
section
variable {cf : FuncId} {cmp : E -> E -> Int} (hc : ∀ (x y : E) (σ : Qa), Qv CC cf [val x, val y] σ = some (.p (.int .i64 (cmp x y))))
variable {r n lo : Nat} {σ : Qa}
include hc in
theorem Jm (hr:r<σ.length) (hlo:lo<=r) (hn:n<=100000) {f hi root c:Nat} (hf:f+hi<=n) (h1:root<hi) (h2:c<hi) (A:List E) (hA:A.length=n) (x13 x14 x15 x16 x17 x18 x19 x20 x21 x22 x23 x24 x25 x26 x27 x28 x29 x30 x31 x32 x33 x34 x35 x36 x37 x38 x39 x40 x41 x42:DV) :
  f146_J0 Qb lo (V r n) (N hi) (N f) (.fn cf []) (N root) (N c) x13 x14 x15 x16 x17 x18 x19 x20 x21 x22 x23 x24 x25 x26 x27 x28 x29 x30 x31 x32 x33 x34 x35 x36 x37 x38 x39 x40 x41 x42 (W σ r A) =
   if ltc cmp (ge A (f+root)) (ge A (f+c))=true then f146_L0 Qb lo (V r n) (N hi) (N f) (.fn cf []) (N c) (W σ r (swp A (f+root) (f+c))) else some (.tuple [],W σ r A):=by
 rw [f146_J0_eq Qb]
 have h3:(A.set (f+root) (ge A (f+c))).length=n:=by rw [QW]; exact hA
 by_cases h:cmp (ge A (f+root)) (ge A (f+c))<0
 ·rw [if_pos (show ltc cmp _ _=true from decide_eq_true h)]
  simp (disch:=omega) only [V,N,addN,gG,idxL,ldW,Qi,List.append_nil,hc,Qn,ltT,stW,swp]
 ·rw [if_neg (show ¬ ltc cmp _ _=true from fun e=>h (of_decide_eq_true e))]
  simp (disch:=omega) only [V,N,addN,gG,idxL,ldW,Qi,List.append_nil,hc,Qn,ltF,stW,swp]
include hc in
theorem UZ (hr:r<σ.length) (hlo:lo<=r) (hn:n<=100000) {f hi:Nat} (hf:f+hi<=n):∀ (k root:Nat) (A:List E),hi-root<=k->root<=100000->A.length=n->
  f146_L0 Qb lo (V r n) (N hi) (N f) (.fn cf []) (N root) (W σ r A)=some (.tuple [],W σ r (sift (ltc cmp) f hi k root A))
 | 0,root,A,hk,hro,hA=>by
  rw [f146_L0_eq Qb rfl]
  simp (disch:=omega) only [V,N,mul2,add1,Zj,geT,gG,sift]
 | k+1,root,A,hk,hro,hA=>by
  rw [f146_L0_eq Qb rfl]
  by_cases h0:hi<=2*root+1
  ·rw [sift,if_pos h0]
   simp (disch:=omega) only [V,N,mul2,add1,Zj,geT,gG]
  ·have e1:f+(2*root+1)+1=f+(2*root+2):=rfl
   have e2:2*root+1+1=2*root+2:=rfl
   by_cases h1:2*root+2<hi
   ·by_cases h2:cmp (ge A (f+(2*root+1))) (ge A (f+(2*root+2)))<0
    ·have ih:=UZ hr hlo hn hf k (2*root+2) (swp A (f+root) (f+(2*root+2))) (by omega) (by omega) (by rw [Qy]; exact hA)
     rw [sift,if_neg h0]
     simp only [h1,show ltc cmp (ge A (f+(2*root+1))) (ge A (f+(2*root+2)))=true from decide_eq_true h2,and_self,if_true]
     simp (disch:=omega) only [V,N,mul2,add1,e1,e2,addN,Zj,geF,Qn,ltT,idxL,ldW,Qi,List.append_nil,hc,gG]
     refine (Jm hc hr hlo hn hf (by omega) h1 A hA _ _ _ _ _ _ _ _ _ _ _ _ _ _ _ _ _ _ _ _ _ _ _ _ _ _ _ _ _ _).trans ?_
     split
     ·exact ih
     ·rfl
    ·have ih:=UZ hr hlo hn hf k (2*root+1) (swp A (f+root) (f+(2*root+1))) (by omega) (by omega) (by rw [Qy]; exact hA)
     rw [sift,if_neg h0]
     simp only [h1,show ltc cmp (ge A (f+(2*root+1))) (ge A (f+(2*root+2)))=false from decide_eq_false h2,Bool.false_eq_true,and_false,if_false]
     simp (disch:=omega) only [V,N,mul2,add1,e1,e2,addN,Zj,geF,Qn,ltT,ltF,idxL,ldW,Qi,List.append_nil,hc,gG]
     refine (Jm hc hr hlo hn hf (by omega) (show 2*root+1<hi by omega) A hA _ _ _ _ _ _ _ _ _ _ _ _ _ _ _ _ _ _ _ _ _ _ _ _ _ _ _ _ _ _).trans ?_
     split
     ·exact ih
     ·rfl
   ·have ih:=UZ hr hlo hn hf k (2*root+1) (swp A (f+root) (f+(2*root+1))) (by omega) (by omega) (by rw [Qy]; exact hA)
    rw [sift,if_neg h0]
    simp only [h1,false_and,if_false]
    simp (disch:=omega) only [V,N,mul2,add1,e1,e2,addN,Zj,geF,Qn,ltF,gG]
    refine (Jm hc hr hlo hn hf (by omega) (show 2*root+1<hi by omega) A hA _ _ _ _ _ _ _ _ _ _ _ _ _ _ _ _ _ _ _ _ _ _ _ _ _ _ _ _ _ _).trans ?_
    split
    ·exact ih
    ·rfl
theorem Vf (lt:E->E->Bool) (f hi:Nat):∀ (k root:Nat) (A:List E),(sift lt f hi k root A).length=A.length
 | 0,root,A=>rfl
 | k+1,root,A=>by
  unfold sift
  split
  ·rfl
  ·simp only
   generalize (if 2*root+2<hi/\lt (ge A (f+(2*root+1))) (ge A (f+(2*root+2)))=true then 2*root+2 else 2*root+1)=c
   split
   ·rw [Vf lt f hi k,Qy]
   ·rfl
include hc in
theorem Jl (hr:r<σ.length) (hlo:lo<=r) (hn:n<=100000) {f hi root:Nat} (hf:f+hi<=n) (hro:root<=100000) (A:List E) (hA:A.length=n) :
  CC lo 146 [V r n,N root,N hi,N f,.fn cf []] (W σ r A)=some (.tuple [],W σ r (sift (ltc cmp) f hi hi root A)):=by
 refine F146_call ?_
 rw [F146_eq]
 exact UZ hc hr hlo hn hf hi root A (by omega) hro hA
theorem sub1_0:binOp PP .sub 3 (.p (.int .i64 ((0:Nat):Int))) (.p (.int .i64 1))=some (.p (.int .i64 (-1))):=by
 rw [WD]; rfl
include hc in
theorem hs_L1 (hr:r<σ.length) (hlo:lo<=r) (hn:n<=100000) {f m:Nat}:∀ (i:Nat) (A:List E),i<=n->(0<i->f+i<=n)->A.length=n->
  f127_L1 Qb lo (V r n) (.fn cf []) (N f) (N 0) (.p (.int .i64 ((i:Int)-1))) (W σ r A)=some (.tuple [],W σ r (hpB (ltc cmp) f i A))
 | 0,A,hi,hf,hA=>by
  rw [f127_L1_eq Qb rfl]
  simp (disch:=omega) only [N,Zj,geF,gG,hpB]
 | i+1,A,hi,hf,hA=>by
  have hf:=hf (Nat.succ_pos _)
  have e:((i+1:Nat):Int)-1=(i:Nat):=by omega
  have h3:(A.set f (ge A (f+i))).length=n:=by rw [QW]; exact hA
  have h1:=Jl hc hr hlo hn (f:=f) (hi:=i) (root:=0) (by omega) (by omega) (swp A f (f+i)) (by rw [Qy]; exact hA)
  have ih:=hs_L1 hr hlo hn (f:=f) (m:=m) i (sift (ltc cmp) f i i 0 (swp A f (f+i))) (by omega) (fun _=>by omega) (by rw [Vf,Qy]; exact hA)
  have e2:binOp PP .sub 3 (.p (.int .i64 ((i:Nat):Int))) (.p (.int .i64 1))=some (.p (.int .i64 ((i:Int)-1))):=by rw [WD,QE (by omega) (by omega)]
  rw [f127_L1_eq Qb rfl,e]
  rw [hpB,<-ih]
  simp only [V,N,swp] at h1
  simp (disch:=omega) only [V,N,Zj,geT,addN,idxL,ldW,stW,gG,e2,Qq,List.append_nil]
  rw [h1]
  simp only [gG,swp]
include hc in
theorem hs_L0 (hr:r<σ.length) (hlo:lo<=r) (hn:n<=100000) {f m:Nat} (hf:f+m<=n):∀ (i:Nat) (A:List E),i<=100000->A.length=n->
  f127_L0 Qb lo (V r n) (.fn cf []) (N f) (N 0) (N m) (N i) (W σ r A)=some (.tuple [],W σ r (hpB (ltc cmp) f m (hpA (ltc cmp) f m i A)))
 | 0,A,hi,hA=>by
  have h1:=Jl hc hr hlo hn (f:=f) (hi:=m) (root:=0) hf (by omega) A hA
  have h2:=hs_L1 hc hr hlo hn (f:=f) (m:=m) m (sift (ltc cmp) f m m 0 A) (by omega) (fun _=>hf) (by rw [Vf]; exact hA)
  have e2:binOp PP .sub 3 (.p (.int .i64 ((m:Nat):Int))) (.p (.int .i64 1))=some (.p (.int .i64 ((m:Int)-1))):=by rw [WD,QE (by omega) (by omega)]
  rw [f127_L0_eq Qb rfl]
  simp only [V,N] at h1
  simp (disch:=omega) only [V,N,Zj,geT,gG,Qq,List.append_nil]
  rw [h1]
  simp only [gG,sub1_0]
  rw [f127_L0_eq Qb rfl]
  simp (disch:=omega) only [V,N,Zj,geF,gG,e2]
  rw [hpA]
  exact h2
 | i+1,A,hi,hA=>by
  have h1:=Jl hc hr hlo hn (f:=f) (hi:=m) (root:=i+1) hf (by omega) A hA
  have ih:=hs_L0 hr hlo hn hf i (sift (ltc cmp) f m m (i+1) A) (by omega) (by rw [Vf]; exact hA)
  rw [f127_L0_eq Qb rfl]
  simp only [V,N] at h1
  simp (disch:=omega) only [V,N,Zj,geT,gG,Qq,List.append_nil]
  rw [h1]
  simp (disch:=omega) only [gG,sub1,Nat.add_sub_cancel]
  rw [hpA]
  exact ih
include hc in
theorem hs_ok (hr:r<σ.length) (hlo:lo<=r) (hn:n<=100000) {a b:Nat} (hab:a<b) (hb:b<=n) (A:List E) (hA:A.length=n) :
  CC lo 127 [V r n,N a,N b,.fn cf []] (W σ r A)=some (.tuple [],W σ r (hpB (ltc cmp) a (b-a) (hpA (ltc cmp) a (b-a) ((b-a-1) / 2) A))):=by
 refine F127_call ?_
 have e2:binOp PP .quo 3 (.p (.int .i64 ((b-a-1:Nat):Int))) (.p (.int .i64 2))=some (.p (.int .i64 (((b-a-1) / 2:Nat):Int))):=by
  have e3:((b-a-1:Nat):Int).tdiv 2=(((b-a-1) / 2:Nat):Int):=by rw [Int.tdiv_eq_ediv_of_nonneg (by omega)]; omega
  have e4:binOp PP .quo 3 (.p (.int .i64 ((b-a-1:Nat):Int))) (.p (.int .i64 2))=some (.p (.int .i64 (IntKind.wrap .i64 (((b-a-1:Nat):Int).tdiv 2)))):=Eq.trans rfl rfl
  rw [e4,e3,QE (by omega) (by omega)]
 rw [F127_eq]
 simp (disch:=omega) only [N,subN,sub1,e2,gG]
 exact hs_L0 hc hr hlo hn (by omega) _ A (by omega) hA
end
end Go.D.StS
end
/- Partitions over elements of type 102. -/
section
set_option linter.unusedVariables false
set_option linter.unusedSimpArgs false
namespace Go.D.StS
open Go.D.Srt
def uA (cmp:E->E->Int) (pv x:E):Bool:=ltc cmp x pv
def vA (cmp:E->E->Int) (pv x:E):Bool:=!ltc cmp x pv
def uE (cmp:E->E->Int) (pv x:E):Bool:=!ltc cmp pv x
def vE (cmp:E->E->Int) (pv x:E):Bool:=ltc cmp pv x
theorem huvA (cmp:E->E->Int) (x y:E):vA cmp x y = !uA cmp x y:=rfl
theorem huvE (cmp:E->E->Int) (x y:E):vE cmp x y = !uE cmp x y:=by simp [uE,vE]
theorem nT {p:Prop} [Decidable p] (h:¬ p):(!decide p)=true:=by simp [h]
theorem nF {p:Prop} [Decidable p] (h:(!decide p)=true):¬ p:=by simpa using h
section
variable {cf : FuncId} {cmp : E -> E -> Int} (hc : ∀ (x y : E) (σ : Qa), Qv CC cf [val x, val y] σ = some (.p (.int .i64 (cmp x y))))
variable {r n lo : Nat} {σ : Qa}
include hc in
theorem upA0 (hr:r<σ.length) (hlo:lo<=r) (hn:n<=100000) {a j:Nat} {A:List E} (hA:A.length=n) (hj:j<n):∀ (k i:Nat),k=j+1-i->a+1<=i->i<=n->
  f133_L0 Qb lo (V r n) (N a) (.fn cf []) (N i) (N j) (W σ r A)=f133_L1 Qb lo (V r n) (N a) (.fn cf []) (N (upI (uA cmp (ge A a)) A k i j)) (N j) (W σ r A)
 | 0,i,hk,ha,hi=>by
  rw [f133_L0_eq Qb rfl,upI]
  simp (disch:=omega) only [V,N,QX,leF,gG]
 | k+1,i,hk,ha,hi=>by
  rw [f133_L0_eq Qb rfl,upI]
  by_cases h:cmp (ge A i) (ge A a)<0
  ·rw [if_pos ⟨by omega,decide_eq_true h⟩,<-upA0 hr hlo hn hA hj k (i+1) (by omega) (by omega) (by omega)]
   simp (disch:=omega) only [V,N,QX,leT,idxL,ldW,Qi,List.append_nil,hc,Qn,ltT,ltF,add1,gG]
  ·rw [if_neg (fun hh=>h (of_decide_eq_true hh.2))]
   simp (disch:=omega) only [V,N,QX,leT,idxL,ldW,Qi,List.append_nil,hc,Qn,ltT,ltF,add1,gG]
include hc in
theorem upA1 (hr:r<σ.length) (hlo:lo<=r) (hn:n<=100000) {a j:Nat} {A:List E} (hA:A.length=n) (hj:j<n):∀ (k i:Nat),k=j+1-i->a+1<=i->i<=n->
  f133_L3 Qb lo (V r n) (N a) (.fn cf []) (N i) (N j) (W σ r A)=f133_L4 Qb lo (V r n) (N a) (.fn cf []) (N (upI (uA cmp (ge A a)) A k i j)) (N j) (W σ r A)
 | 0,i,hk,ha,hi=>by
  rw [f133_L3_eq Qb rfl,upI]
  simp (disch:=omega) only [V,N,QX,leF,gG]
 | k+1,i,hk,ha,hi=>by
  rw [f133_L3_eq Qb rfl,upI]
  by_cases h:cmp (ge A i) (ge A a)<0
  ·rw [if_pos ⟨by omega,decide_eq_true h⟩,<-upA1 hr hlo hn hA hj k (i+1) (by omega) (by omega) (by omega)]
   simp (disch:=omega) only [V,N,QX,leT,idxL,ldW,Qi,List.append_nil,hc,Qn,ltT,ltF,add1,gG]
  ·rw [if_neg (fun hh=>h (of_decide_eq_true hh.2))]
   simp (disch:=omega) only [V,N,QX,leT,idxL,ldW,Qi,List.append_nil,hc,Qn,ltT,ltF,add1,gG]
include hc in
theorem upE (hr:r<σ.length) (hlo:lo<=r) (hn:n<=100000) {a j:Nat} {A:List E} (hA:A.length=n) (hj:j<n):∀ (k i:Nat),k=j+1-i->a+1<=i->i<=n->
  f132_L1 Qb lo (V r n) (N a) (.fn cf []) (N i) (N j) (W σ r A)=f132_L2 Qb lo (V r n) (N a) (.fn cf []) (N (upI (uE cmp (ge A a)) A k i j)) (N j) (W σ r A)
 | 0,i,hk,ha,hi=>by
  rw [f132_L1_eq Qb rfl,upI]
  simp (disch:=omega) only [V,N,QX,leF,gG]
 | k+1,i,hk,ha,hi=>by
  rw [f132_L1_eq Qb rfl,upI]
  by_cases h:¬ cmp (ge A a) (ge A i)<0
  ·rw [if_pos ⟨by omega,nT h⟩,<-upE hr hlo hn hA hj k (i+1) (by omega) (by omega) (by omega)]
   simp (disch:=omega) only [V,N,QX,leT,idxL,ldW,Qi,List.append_nil,hc,Qn,ltT,ltF,add1,gG]
  ·rw [if_neg (fun hh=>h (nF hh.2))]
   simp (disch:=omega) only [V,N,QX,leT,idxL,ldW,Qi,List.append_nil,hc,Qn,ltT,ltF,add1,gG]
def enA0 (σ:Qa) (r a i J:Nat) (A:List E):DV×Qa:=(.tuple [N J,.p (.bool true)],W σ r (swp A J a))
include hc in
theorem dnA0 (hr:r<σ.length) (hlo:lo<=r) (hn:n<=100000) {a i:Nat} {A:List E} (hA:A.length=n) (ha:a+1<=i) (ha2:a<n):∀ (k j:Nat),k=j+1-i->i<=j+1->j<n->
  f133_L1 Qb lo (V r n) (N a) (.fn cf []) (N i) (N j) (W σ r A) =
   if dnJ (vA cmp (ge A a)) A k i j<i then some (enA0 σ r a i (dnJ (vA cmp (ge A a)) A k i j) A)
   else f133_L2 Qb lo (V r n) (N a) (.fn cf []) (N (i+1)) (N (dnJ (vA cmp (ge A a)) A k i j-1)) (W σ r (swp A i (dnJ (vA cmp (ge A a)) A k i j)))
 | 0,j,hk,hi,hj=>by
  have h3:(A.set j (ge A a)).length=n:=by rw [QW]; exact hA
  rw [f133_L1_eq Qb rfl,dnJ,if_pos (by omega)]
  simp (disch:=omega) only [V,N,QX,leF,Zh,gtT,idxL,ldW,stW,gG,enA0,swp]
 | k+1,j,hk,hi,hj=>by
  have h3:(A.set i (ge A j)).length=n:=by rw [QW]; exact hA
  rw [f133_L1_eq Qb rfl,dnJ]
  by_cases h:¬ cmp (ge A j) (ge A a)<0
  ·rw [if_pos (show i<=j/\vA cmp (ge A a) (ge A j)=true from ⟨by omega,nT h⟩),<-dnA0 hr hlo hn hA ha ha2 k (j-1) (by omega) (by omega) (by omega)]
   simp (disch:=omega) only [V,N,QX,leT,idxL,ldW,Qi,List.append_nil,hc,Qn,ltT,ltF,sub1,gG]
  ·rw [if_neg (show ¬ (i<=j/\vA cmp (ge A a) (ge A j)=true) from fun hh=>h (nF hh.2)),if_neg (by omega)]
   simp (disch:=omega) only [V,N,QX,leT,idxL,ldW,Qi,List.append_nil,hc,Qn,ltT,ltF,Zh,gtF,stW,add1,sub1,swp,gG]
def enA1 (σ:Qa) (r a i J:Nat) (A:List E):DV×Qa:=(.tuple [N J,.p (.bool false)],W σ r (swp A J a))
include hc in
theorem dnA1 (hr:r<σ.length) (hlo:lo<=r) (hn:n<=100000) {a i:Nat} {A:List E} (hA:A.length=n) (ha:a+1<=i) (ha2:a<n):∀ (k j:Nat),k=j+1-i->i<=j+1->j<n->
  f133_L4 Qb lo (V r n) (N a) (.fn cf []) (N i) (N j) (W σ r A) =
   if dnJ (vA cmp (ge A a)) A k i j<i then some (enA1 σ r a i (dnJ (vA cmp (ge A a)) A k i j) A)
   else f133_L2 Qb lo (V r n) (N a) (.fn cf []) (N (i+1)) (N (dnJ (vA cmp (ge A a)) A k i j-1)) (W σ r (swp A i (dnJ (vA cmp (ge A a)) A k i j)))
 | 0,j,hk,hi,hj=>by
  have h3:(A.set j (ge A a)).length=n:=by rw [QW]; exact hA
  rw [f133_L4_eq Qb rfl,dnJ,if_pos (by omega)]
  simp (disch:=omega) only [V,N,QX,leF,Zh,gtT,idxL,ldW,stW,gG,enA1,swp]
 | k+1,j,hk,hi,hj=>by
  have h3:(A.set i (ge A j)).length=n:=by rw [QW]; exact hA
  rw [f133_L4_eq Qb rfl,dnJ]
  by_cases h:¬ cmp (ge A j) (ge A a)<0
  ·rw [if_pos (show i<=j/\vA cmp (ge A a) (ge A j)=true from ⟨by omega,nT h⟩),<-dnA1 hr hlo hn hA ha ha2 k (j-1) (by omega) (by omega) (by omega)]
   simp (disch:=omega) only [V,N,QX,leT,idxL,ldW,Qi,List.append_nil,hc,Qn,ltT,ltF,sub1,gG]
  ·rw [if_neg (show ¬ (i<=j/\vA cmp (ge A a) (ge A j)=true) from fun hh=>h (nF hh.2)),if_neg (by omega)]
   simp (disch:=omega) only [V,N,QX,leT,idxL,ldW,Qi,List.append_nil,hc,Qn,ltT,ltF,Zh,gtF,stW,add1,sub1,swp,gG]
def enE (σ:Qa) (r a i J:Nat) (A:List E):DV×Qa:=(N i,W σ r A)
include hc in
theorem dnE (hr:r<σ.length) (hlo:lo<=r) (hn:n<=100000) {a i:Nat} {A:List E} (hA:A.length=n) (ha:a+1<=i) (ha2:a<n):∀ (k j:Nat),k=j+1-i->i<=j+1->j<n->
  f132_L2 Qb lo (V r n) (N a) (.fn cf []) (N i) (N j) (W σ r A) =
   if dnJ (vE cmp (ge A a)) A k i j<i then some (enE σ r a i (dnJ (vE cmp (ge A a)) A k i j) A)
   else f132_L0 Qb lo (V r n) (N a) (.fn cf []) (N (i+1)) (N (dnJ (vE cmp (ge A a)) A k i j-1)) (W σ r (swp A i (dnJ (vE cmp (ge A a)) A k i j)))
 | 0,j,hk,hi,hj=>by
  have h3:(A.set j (ge A a)).length=n:=by rw [QW]; exact hA
  rw [f132_L2_eq Qb rfl,dnJ,if_pos (by omega)]
  simp (disch:=omega) only [V,N,QX,leF,Zh,gtT,idxL,ldW,stW,gG,enE,swp]
 | k+1,j,hk,hi,hj=>by
  have h3:(A.set i (ge A j)).length=n:=by rw [QW]; exact hA
  rw [f132_L2_eq Qb rfl,dnJ]
  by_cases h:cmp (ge A a) (ge A j)<0
  ·rw [if_pos (show i<=j/\vE cmp (ge A a) (ge A j)=true from ⟨by omega,decide_eq_true h⟩),<-dnE hr hlo hn hA ha ha2 k (j-1) (by omega) (by omega) (by omega)]
   simp (disch:=omega) only [V,N,QX,leT,idxL,ldW,Qi,List.append_nil,hc,Qn,ltT,ltF,sub1,gG]
  ·rw [if_neg (show ¬ (i<=j/\vE cmp (ge A a) (ge A j)=true) from fun hh=>h (of_decide_eq_true hh.2)),if_neg (by omega)]
   simp (disch:=omega) only [V,N,QX,leT,idxL,ldW,Qi,List.append_nil,hc,Qn,ltT,ltF,Zh,gtF,stW,add1,sub1,swp,gG]
include hc in
theorem lpA (hr:r<σ.length) (hlo:lo<=r) (hn:n<=100000) {a:Nat} (ha2:a<n):∀ (k i j:Nat) (A:List E),j+1-i<k->a+1<=i->i<=j+1->j<n->A.length=n->
  f133_L2 Qb lo (V r n) (N a) (.fn cf []) (N i) (N j) (W σ r A)=some (enA1 σ r a (prt (uA cmp) (vA cmp) a k i j A).1 (prt (uA cmp) (vA cmp) a k i j A).2.1 (prt (uA cmp) (vA cmp) a k i j A).2.2)
 | 0,i,j,A,hk,ha,hi,hj,hA=>by omega
 | k+1,i,j,A,hk,ha,hi,hj,hA=>by
  obtain ⟨a1,a2,a3,a4⟩:=Uz (q:=uA cmp (ge A a)) (A:=A) (j+1-i) i j (Nat.le_refl _) hi
  have h1:=upA1 hc hr hlo hn hA hj _ i rfl ha (by omega)
  obtain ⟨b1,b2,b3,b4⟩:=UE (q:=vA cmp (ge A a)) (A:=A) (j+1-upI (uA cmp (ge A a)) A (j+1-i) i j) (upI (uA cmp (ge A a)) A (j+1-i) i j) j (Nat.le_refl _) a2 (by omega)
  rw [f133_L2_eq Qb rfl,h1,prt]
  generalize upI (uA cmp (ge A a)) A (j+1-i) i j=i' at *
  have h2:=dnA1 hc hr hlo hn hA (show a+1<=i' by omega) ha2 _ j rfl a2 hj
  rw [h2]
  generalize dnJ (vA cmp (ge A a)) A (j+1-i') i' j=j' at *
  split
  ·rename_i hlt
   rfl
  ·rename_i hlt
   have c1:=a4 (by omega)
   have c2:=b4 (by omega)
   have hne:i'≠j':=by
    rintro rfl
    rw [huvA,c1] at c2
    exact absurd c2 (by decide)
   exact lpA hr hlo hn ha2 k (i'+1) (j' - 1) (swp A i' j') (by omega) (by omega) (by omega) (by omega) (by rw [Qy]; exact hA)
include hc in
theorem lpE (hr:r<σ.length) (hlo:lo<=r) (hn:n<=100000) {a:Nat} (ha2:a<n):∀ (k i j:Nat) (A:List E),j+1-i<k->a+1<=i->i<=j+1->j<n->A.length=n->
  f132_L0 Qb lo (V r n) (N a) (.fn cf []) (N i) (N j) (W σ r A)=some (enE σ r a (prt (uE cmp) (vE cmp) a k i j A).1 (prt (uE cmp) (vE cmp) a k i j A).2.1 (prt (uE cmp) (vE cmp) a k i j A).2.2)
 | 0,i,j,A,hk,ha,hi,hj,hA=>by omega
 | k+1,i,j,A,hk,ha,hi,hj,hA=>by
  obtain ⟨a1,a2,a3,a4⟩:=Uz (q:=uE cmp (ge A a)) (A:=A) (j+1-i) i j (Nat.le_refl _) hi
  have h1:=upE hc hr hlo hn hA hj _ i rfl ha (by omega)
  obtain ⟨b1,b2,b3,b4⟩:=UE (q:=vE cmp (ge A a)) (A:=A) (j+1-upI (uE cmp (ge A a)) A (j+1-i) i j) (upI (uE cmp (ge A a)) A (j+1-i) i j) j (Nat.le_refl _) a2 (by omega)
  rw [f132_L0_eq Qb rfl,h1,prt]
  generalize upI (uE cmp (ge A a)) A (j+1-i) i j=i' at *
  have h2:=dnE hc hr hlo hn hA (show a+1<=i' by omega) ha2 _ j rfl a2 hj
  rw [h2]
  generalize dnJ (vE cmp (ge A a)) A (j+1-i') i' j=j' at *
  split
  ·rename_i hlt
   rfl
  ·rename_i hlt
   have c1:=a4 (by omega)
   have c2:=b4 (by omega)
   have hne:i'≠j':=by
    rintro rfl
    rw [huvE,c1] at c2
    exact absurd c2 (by decide)
   exact lpE hr hlo hn ha2 k (i'+1) (j' - 1) (swp A i' j') (by omega) (by omega) (by omega) (by omega) (by rw [Qy]; exact hA)
include hc in
theorem pe_ok (hr:r<σ.length) (hlo:lo<=r) (hn:n<=100000) {a b p:Nat} (hab:a<b) (hb:b<=n) (hp:p<n) (A:List E) (hA:A.length=n) :
  CC lo 132 [V r n,N a,N b,N p,.fn cf []] (W σ r A)=some (enE σ r a (prt (uE cmp) (vE cmp) a (b-a+1) (a+1) (b-1) (swp A a p)).1 0 (prt (uE cmp) (vE cmp) a (b-a+1) (a+1) (b-1) (swp A a p)).2.2):=by
 refine F132_call ?_
 have h3:(A.set a (ge A p)).length=n:=by rw [QW]; exact hA
 rw [F132_eq]
 simp (disch:=omega) only [V,N,idxL,ldW,stW,add1,sub1,gG]
 exact lpE hc hr hlo hn (by omega) (b-a+1) (a+1) (b-1) (swp A a p) (by omega) (by omega) (by omega) (by omega) (by rw [Qy]; exact hA)
include hc in
theorem pa_ok (hr:r<σ.length) (hlo:lo<=r) (hn:n<=100000) {a b p:Nat} (hab:a<b) (hb:b<=n) (hp:p<n) (A:List E) (hA:A.length=n) :
  ∃ f:Bool,CC lo 133 [V r n,N a,N b,N p,.fn cf []] (W σ r A)=some (.tuple [N (prt (uA cmp) (vA cmp) a (b-a+1) (a+1) (b-1) (swp A a p)).2.1,.p (.bool f)],W σ r (swp (prt (uA cmp) (vA cmp) a (b-a+1) (a+1) (b-1) (swp A a p)).2.2 (prt (uA cmp) (vA cmp) a (b-a+1) (a+1) (b-1) (swp A a p)).2.1 a)):=by
 have h3:(A.set a (ge A p)).length=n:=by rw [QW]; exact hA
 have hB:(swp A a p).length=n:=by rw [Qy]; exact hA
 have key:∃ f:Bool,f133_L0 Qb lo (V r n) (N a) (.fn cf []) (N (a+1)) (N (b-1)) (W σ r (swp A a p))=some (.tuple [N (prt (uA cmp) (vA cmp) a (b-a+1) (a+1) (b-1) (swp A a p)).2.1,.p (.bool f)],W σ r (swp (prt (uA cmp) (vA cmp) a (b-a+1) (a+1) (b-1) (swp A a p)).2.2 (prt (uA cmp) (vA cmp) a (b-a+1) (a+1) (b-1) (swp A a p)).2.1 a)):=by
  generalize swp A a p=B at *
  have hi:a+1<=b-1+1:=by omega
  obtain ⟨a1,a2,a3,a4⟩:=Uz (q:=uA cmp (ge B a)) (A:=B) (b-1+1-(a+1)) (a+1) (b-1) (Nat.le_refl _) hi
  have h1:=upA0 hc hr hlo hn hB (show b-1<n by omega) _ (a+1) rfl (Nat.le_refl _) (by omega)
  obtain ⟨b1,b2,b3,b4⟩:=UE (q:=vA cmp (ge B a)) (A:=B) (b-1+1-upI (uA cmp (ge B a)) B (b-1+1-(a+1)) (a+1) (b-1)) (upI (uA cmp (ge B a)) B (b-1+1-(a+1)) (a+1) (b-1)) (b-1) (Nat.le_refl _) a2 (by omega)
  rw [h1,prt]
  generalize upI (uA cmp (ge B a)) B (b-1+1-(a+1)) (a+1) (b-1)=i' at *
  have h2:=dnA0 hc hr hlo hn hB (show a+1<=i' by omega) (by omega) _ (b-1) rfl a2 (by omega)
  rw [h2]
  generalize dnJ (vA cmp (ge B a)) B (b-1+1-i') i' (b-1)=j' at *
  split
  ·rename_i hlt
   exact ⟨true,rfl⟩
  ·rename_i hlt
   have c1:=a4 (by omega)
   have c2:=b4 (by omega)
   have hne:i'≠j':=by
    rintro rfl
    rw [huvA,c1] at c2
    exact absurd c2 (by decide)
   exact ⟨false,lpA hc hr hlo hn (by omega) (b-a) (i'+1) (j' - 1) (swp B i' j') (by omega) (by omega) (by omega) (by omega) (by rw [Qy]; exact hB)⟩
 obtain ⟨f,hf⟩:=key
 refine ⟨f,F133_call ?_⟩
 rw [F133_eq]
 simp (disch:=omega) only [V,N,idxL,ldW,stW,add1,sub1,gG]
 exact hf
end
end Go.D.StS
end
/- Partial insertion over elements of type 102. -/
section
set_option linter.unusedVariables false
set_option linter.unusedSimpArgs false
namespace Go.D.StS
open Go.D.Srt
theorem insUp_len (lt:E->E->Bool):∀ (k j:Nat) (A:List E),(WV lt k j A).length=A.length
 | 0,j,A=>rfl
 | k+1,j,A=>by
  unfold WV
  split
  ·rw [insUp_len lt k,Qy]
  ·rfl
section
variable {cf : FuncId} {cmp : E -> E -> Int} (hc : ∀ (x y : E) (σ : Qa), Qv CC cf [val x, val y] σ = some (.p (.int .i64 (cmp x y))))
variable {r n lo : Nat} {σ : Qa}
include hc in
theorem pi_L3 (hr:r<σ.length) (hlo:lo<=r) (hn:n<=100000) {a b i c:Nat} (hb:b<=n) (hcc:c<=1000):∀ (k j:Nat) (A:List E),k=b-j->1<=j->A.length=n->
  f131_L3 Qb lo (V r n) (N a) (N b) (.fn cf []) (N i) (N c) (N j) (W σ r A)=f131_L0 Qb lo (V r n) (N a) (N b) (.fn cf []) (N i) (N (c+1)) (W σ r (WV (ltc cmp) k j A))
 | 0,j,A,hk,hj,hA=>by
  rw [f131_L3_eq Qb rfl,WV]
  simp (disch:=omega) only [V,N,Qn,ltF,gG,f131_J1_eq,add1]
 | k+1,j,A,hk,hj,hA=>by
  have h3:(A.set j (ge A (j-1))).length=n:=by rw [QW]; exact hA
  rw [f131_L3_eq Qb rfl,WV]
  by_cases h:cmp (ge A j) (ge A (j-1))<0
  ·rw [if_pos (show ltc cmp _ _=true from decide_eq_true h),<-pi_L3 hr hlo hn hb hcc k (j+1) (swp A j (j-1)) (by omega) (by omega) (by rw [Qy]; exact hA)]
   simp (disch:=omega) only [V,N,Qn,ltT,sub1,idxL,ldW,stW,Qi,List.append_nil,hc,gG,add1,swp]
  ·rw [if_neg (show ¬ ltc cmp _ _=true from fun e=>h (of_decide_eq_true e))]
   simp (disch:=omega) only [V,N,Qn,ltT,ltF,sub1,idxL,ldW,stW,Qi,List.append_nil,hc,gG,f131_J1_eq,add1]
include hc in
theorem Jp (hr:r<σ.length) (hlo:lo<=r) (hn:n<=100000) {a b i c:Nat} (hb:b<=n) (hi:i<=b) (hcc:c<=1000) (A:List E) (hA:A.length=n) (x11 x39 x40 x41 x42 x43 x44 x45 x46 x47 x48 x49 x50 x51 x52 x53 x54 x55 x56 x57 x58 x59 x60 x61 x62 x63 x64 x65 x66 x67 x68 x69 x70 x71 x72 x73 x74 x75 x76 x77 x78 x79 x80 x81 x82 x83 x84 x85 x86 x87 x88 x89 x90 x91 x92 x93 x94 x95 x96 x97 x98 x99 x100:DV) :
  f131_J0 Qb lo (V r n) (N a) (N b) (.fn cf []) (N i) (N c) x11 x39 x40 x41 x42 x43 x44 x45 x46 x47 x48 x49 x50 x51 x52 x53 x54 x55 x56 x57 x58 x59 x60 x61 x62 x63 x64 x65 x66 x67 x68 x69 x70 x71 x72 x73 x74 x75 x76 x77 x78 x79 x80 x81 x82 x83 x84 x85 x86 x87 x88 x89 x90 x91 x92 x93 x94 x95 x96 x97 x98 x99 x100 (W σ r A)=f131_L0 Qb lo (V r n) (N a) (N b) (.fn cf []) (N i) (N (c+1)) (W σ r (if 2<=b-i then WV (ltc cmp) (b-(i+1)) (i+1) A else A)):=by
 have h3:=pi_L3 hc hr hlo hn (a:=a) (i:=i) hb hcc (b-(i+1)) (i+1) A rfl (by omega) hA
 rw [f131_J0_eq Qb]
 by_cases h:2<=b-i
 ·rw [if_pos h,<-h3]
  simp (disch:=omega) only [V,N,subN,Zj,geT,gG,add1]
 ·rw [if_neg h]
  simp (disch:=omega) only [V,N,subN,Zj,geF,gG,add1,f131_J1_eq]
include hc in
theorem pi_L2 (hr:r<σ.length) (hlo:lo<=r) (hn:n<=100000) {a b i c:Nat} (hb:b<=n) (hi:i<=b) (hcc:c<=1000):∀ (j:Nat) (A:List E),j<n->A.length=n->
  f131_L2 Qb lo (V r n) (N a) (N b) (.fn cf []) (N i) (N c) (N j) (W σ r A) =
   f131_L0 Qb lo (V r n) (N a) (N b) (.fn cf []) (N i) (N (c+1)) (W σ r (if 2<=b-i then WV (ltc cmp) (b-(i+1)) (i+1) (Zb (ltc cmp) 0 j A) else Zb (ltc cmp) 0 j A))
 | 0,A,hj,hA=>by
  rw [f131_L2_eq Qb rfl,Zb]
  simp (disch:=omega) only [V,N,Zj,geF,gG]
  exact Jp hc hr hlo hn hb hi hcc A hA _ _ _ _ _ _ _ _ _ _ _ _ _ _ _ _ _ _ _ _ _ _ _ _ _ _ _ _ _ _ _ _ _ _ _ _ _ _ _ _ _ _ _ _ _ _ _ _ _ _ _ _ _ _ _ _ _ _ _ _ _ _ _
 | j+1,A,hj,hA=>by
  have h3:(A.set (j+1) (ge A j)).length=n:=by rw [QW]; exact hA
  rw [f131_L2_eq Qb rfl]
  by_cases h:cmp (ge A (j+1)) (ge A j)<0
  ·have e:Zb (ltc cmp) 0 (j+1) A=Zb (ltc cmp) 0 j (swp A (j+1) j):=by
    rw [Zb,if_pos ⟨by omega,decide_eq_true h⟩]
   rw [e,<-pi_L2 hr hlo hn hb hi hcc j (swp A (j+1) j) (by omega) (by rw [Qy]; exact hA)]
   simp (disch:=omega) only [V,N,Zj,geT,Qn,ltT,sub1,Nat.add_sub_cancel,idxL,ldW,stW,Qi,List.append_nil,hc,gG,swp]
  ·have e:Zb (ltc cmp) 0 (j+1) A=A:=by
    rw [Zb,if_neg (fun hh=>h (of_decide_eq_true hh.2))]
   rw [e]
   simp (disch:=omega) only [V,N,Zj,geT,Qn,ltF,sub1,Nat.add_sub_cancel,idxL,ldW,stW,Qi,List.append_nil,hc,gG]
   exact Jp hc hr hlo hn hb hi hcc A hA _ _ _ _ _ _ _ _ _ _ _ _ _ _ _ _ _ _ _ _ _ _ _ _ _ _ _ _ _ _ _ _ _ _ _ _ _ _ _ _ _ _ _ _ _ _ _ _ _ _ _ _ _ _ _ _ _ _ _ _ _ _ _
def pA3 (cmp:E->E->Int) (a b i:Nat) (A:List E):List E:=
 let A1:=swp A i (i-1)
 let A2:=if 2<=i-a then Zb (ltc cmp) 0 (i-1) A1 else A1
 if 2<=b-i then WV (ltc cmp) (b-(i+1)) (i+1) A2 else A2
include hc in
theorem pi_L1 (hr:r<σ.length) (hlo:lo<=r) (hn:n<=100000) {a b c:Nat} (hb:b<=n) (hcc:c<=1000) {A:List E} (hA:A.length=n):∀ (k i:Nat),k=b-i->a+1<=i->i<=b->
  f131_L1 Qb lo (V r n) (N a) (N b) (.fn cf []) (N i) (N c) (W σ r A) =
   if Wf (ltc cmp) A b k i=b then some (.p (.bool true),W σ r A) else if b-a<50 then some (.p (.bool false),W σ r A)
   else f131_L0 Qb lo (V r n) (N a) (N b) (.fn cf []) (N (Wf (ltc cmp) A b k i)) (N (c+1)) (W σ r (pA3 cmp a b (Wf (ltc cmp) A b k i) A))
 | 0,i,hk,ha,hi=>by
  rw [f131_L1_eq Qb rfl,Wf,if_pos (by omega)]
  simp (disch:=omega) only [V,N,Qn,ltF,QV,eqT,gG]
 | k+1,i,hk,ha,hi=>by
  rw [f131_L1_eq Qb rfl,Wf]
  by_cases h:cmp (ge A i) (ge A (i-1))<0
  ·rw [if_neg (show ¬ (i<b/\ltc cmp (ge A i) (ge A (i-1))=false) from fun hh=>of_decide_eq_false hh.2 h),if_neg (by omega)]
   by_cases h5:b-a<50
   ·rw [if_pos h5]
    simp (disch:=omega) only [V,N,Qn,ltT,sub1,subN,idxL,ldW,Qi,List.append_nil,hc,QV,eqF,gG]
   ·rw [if_neg h5]
    have h3:(A.set i (ge A (i-1))).length=n:=by rw [QW]; exact hA
    by_cases h6:2<=i-a
    ·have e:=pi_L2 hc hr hlo hn (a:=a) hb (show i<=b from hi) hcc (i-1) (swp A i (i-1)) (by omega) (by rw [Qy]; exact hA)
     have e2:pA3 cmp a b i A=if 2<=b-i then WV (ltc cmp) (b-(i+1)) (i+1) (Zb (ltc cmp) 0 (i-1) (swp A i (i-1))) else Zb (ltc cmp) 0 (i-1) (swp A i (i-1)):=by
      simp only [pA3,if_pos h6]
     rw [e2,<-e]
     simp (disch:=omega) only [V,N,Qn,ltT,ltF,sub1,subN,idxL,ldW,stW,Qi,List.append_nil,hc,QV,eqF,Zj,geT,gG,swp]
    ·have e2:pA3 cmp a b i A=if 2<=b-i then WV (ltc cmp) (b-(i+1)) (i+1) (swp A i (i-1)) else swp A i (i-1):=by
      simp only [pA3,if_neg h6]
     rw [e2]
     simp (disch:=omega) only [V,N,Qn,ltT,ltF,sub1,subN,idxL,ldW,stW,Qi,List.append_nil,hc,QV,eqF,Zj,geF,gG]
     exact Jp hc hr hlo hn (a:=a) hb (show i<=b from hi) hcc (swp A i (i-1)) (by rw [Qy]; exact hA) _ _ _ _ _ _ _ _ _ _ _ _ _ _ _ _ _ _ _ _ _ _ _ _ _ _ _ _ _ _ _ _ _ _ _ _ _ _ _ _ _ _ _ _ _ _ _ _ _ _ _ _ _ _ _ _ _ _ _ _ _ _ _
  ·rw [if_pos (show i<b/\ltc cmp (ge A i) (ge A (i-1))=false from ⟨by omega,decide_eq_false h⟩),<-pi_L1 hr hlo hn hb hcc hA k (i+1) (by omega) (by omega) (by omega)]
   simp (disch:=omega) only [V,N,Qn,ltT,ltF,sub1,idxL,ldW,Qi,List.append_nil,hc,add1,gG]
theorem pA3_len (a b i:Nat) (A:List E):(pA3 cmp a b i A).length=A.length:=by
 unfold pA3
 simp only
 split <;> split <;> simp only [insUp_len,Vm,Qy]
include hc in
theorem pi_L0 (hr:r<σ.length) (hlo:lo<=r) (hn:n<=100000) {a b:Nat} (hb:b<=n) (hab:a<b):∀ (s i:Nat) (A:List E),s<=5->a+1<=i->i<=b->A.length=n->
  f131_L0 Qb lo (V r n) (N a) (N b) (.fn cf []) (N i) (N (5-s)) (W σ r A)=some (.p (.bool (pins (ltc cmp) a b s i A).1),W σ r (pins (ltc cmp) a b s i A).2)
 | 0,i,A,hs,ha,hi,hA=>by
  rw [f131_L0_eq Qb rfl,pins]
  simp (disch:=omega) only [V,N,Qn,ltF,gG]
 | s+1,i,A,hs,ha,hi,hA=>by
  have h1:=pi_L1 hc hr hlo hn (c:=5-(s+1)) hb (by omega) hA (b-i) i rfl ha hi
  have hle:i<=Wf (ltc cmp) A b (b-i) i/\Wf (ltc cmp) A b (b-i) i<=b:=scan_le (b-i) i rfl hi
  rw [f131_L0_eq Qb rfl,pins]
  have e:f131_L1 Qb lo (V r n) (N a) (N b) (.fn cf []) (N i) (N (5-(s+1))) (W σ r A)=_:=h1
  have e5:decide (((5-(s+1):Nat):Int)<5)=true:=decide_eq_true (by omega)
  simp only [Qn,e5,gG,e]
  generalize Wf (ltc cmp) A b (b-i) i=i' at *
  split
  ·rfl
  ·split
   ·rfl
   ·have ih:=pi_L0 hr hlo hn hb hab s i' (pA3 cmp a b i' A) (by omega) (by omega) (by omega) (by rw [pA3_len]; exact hA)
    rw [show 5-(s+1)+1=5-s by omega]
    exact ih
where
 scan_le {A:List E} {b:Nat}:∀ (k i:Nat),k=b-i->i<=b->i<=Wf (ltc cmp) A b k i/\Wf (ltc cmp) A b k i<=b
 | 0,i,hk,hi=>⟨Nat.le_refl _,hi⟩
 | k+1,i,hk,hi=>by
  unfold Wf
  split
  ·have:=scan_le (A:=A) (b:=b) k (i+1) (by omega) (by omega)
   exact ⟨by omega,this.2⟩
  ·exact ⟨Nat.le_refl _,hi⟩
include hc in
theorem pi_ok (hr:r<σ.length) (hlo:lo<=r) (hn:n<=100000) {a b:Nat} (hb:b<=n) (hab:a<b) (A:List E) (hA:A.length=n) :
  CC lo 131 [V r n,N a,N b,.fn cf []] (W σ r A)=some (.p (.bool (pins (ltc cmp) a b 5 (a+1) A).1),W σ r (pins (ltc cmp) a b 5 (a+1) A).2):=by
 refine F131_call ?_
 rw [F131_eq]
 simp (disch:=omega) only [N,add1,gG]
 exact pi_L0 hc hr hlo hn hb hab 5 (a+1) A (by omega) (by omega) (by omega) hA
end
end Go.D.StS
end
/- Reversing, and the choice of a pivot, over elements of type 102. -/
section
set_option linter.unusedVariables false
set_option linter.unusedSimpArgs false
namespace Go.D.StS
open Go.D.Srt
section
variable {cf : FuncId} {cmp : E -> E -> Int} (hc : ∀ (x y : E) (σ : Qa), Qv CC cf [val x, val y] σ = some (.p (.int .i64 (cmp x y))))
variable {r n lo : Nat} {σ : Qa}
theorem rv_L0 (hr:r<σ.length) (hlo:lo<=r) (hn:n<=100000) {a b:Nat} (hb:b<=n):∀ (k i j:Nat) (A:List E),j-i<=k->a<=i->j<b->A.length=n->
  ∃ B,RP a b A B/\f130_L0 Qb lo (V r n) (N i) (N j) (W σ r A)=some (.tuple [],W σ r B)
 | 0,i,j,A,hk,ha,hj,hA=>by
  refine ⟨A,RP.refl _ _ _,?_⟩
  rw [f130_L0_eq Qb rfl]
  simp (disch:=omega) only [V,N,Qn,ltF,gG]
 | k+1,i,j,A,hk,ha,hj,hA=>by
  by_cases h:i<j
  ·obtain ⟨B,h1,h2⟩:=rv_L0 hr hlo hn (a:=a) hb k (i+1) (j-1) (swp A i j) (by omega) (by omega) (by omega) (by rw [Qy]; exact hA)
   refine ⟨B,(RP.swap (a:=a) (b:=b) (i:=i) (j:=j) ⟨ha,by omega⟩ ⟨by omega,hj⟩ (by omega)).trans h1,?_⟩
   have h3:(A.set i (ge A j)).length=n:=by rw [QW]; exact hA
   rw [f130_L0_eq Qb rfl,<-h2]
   simp (disch:=omega) only [V,N,Qn,ltT,idxL,ldW,stW,add1,sub1,gG,swp]
  ·refine ⟨A,RP.refl _ _ _,?_⟩
   rw [f130_L0_eq Qb rfl]
   simp (disch:=omega) only [V,N,Qn,ltF,gG]
theorem rv_ok (hr:r<σ.length) (hlo:lo<=r) (hn:n<=100000) {a b:Nat} (hab:a<b) (hb:b<=n) (A:List E) (hA:A.length=n) (y:DV) :
  ∃ B,RP a b A B/\CC lo 130 [V r n,N a,N b,y] (W σ r A)=some (.tuple [],W σ r B):=by
 obtain ⟨B,h1,h2⟩:=rv_L0 hr hlo hn (a:=a) hb (b-1-a) a (b-1) A (Nat.le_refl _) (Nat.le_refl _) (by omega) hA
 refine ⟨B,h1,F130_call ?_⟩
 rw [F130_eq]
 simp (disch:=omega) only [N,sub1,gG]
 exact h2
def Q (σ:Qa) (r:Nat) (A:List E) (k:Int):Qa:=W (σ++[Row.mix [.p (.int .i64 k)]]) r A
theorem Q_load (hr:r<σ.length) (A:List E) (k:Int):load PP 3 (.ptr σ.length 0) (Q σ r A k)=some (.p (.int .i64 k)):=by
 rw [QF,Qc (off:=0) (cs:=[.p (.int .i64 k)]) ?_ rfl]
 exact Qu QB (by omega)
theorem s3i:size? PP 3=some 1:=Eq.trans (by kernel_rfl) rfl
theorem Q_store (hr:r<σ.length) (hlo:lo<=r) (A:List E) (k k':Int):store PP lo 3 (.ptr σ.length 0) (.p (.int .i64 k')) (Q σ r A k)=some (Q σ r A k'):=by
 have h1:(Q σ r A k)[σ.length]?=some (.mix [.p (.int .i64 k)]):=Qu QB (by omega)
 have h2:lo<=σ.length:=by omega
 have h3:(Q σ r A k).set σ.length (.mix [.p (.int .i64 k')])=Q σ r A k':=by
  unfold Q
  rw [W,List.set_comm _ _ (by omega),List.set_append_right _ _ (Nat.le_refl _),Nat.sub_self]
  rfl
 simp only [store,s3i,DV.cells,List.length_singleton,if_true,Zo,h2,h1]
 rw [<-h3]
 rfl
include hc in
theorem Jq (hr:r<σ.length) (hlo:lo<=r) {i j:Nat} (hi:i<n) (hj:j<n) {A:List E} (hA:A.length=n) (k:Int) :
  ∃ i' j' k',CC lo 162 [V r n,N i,N j,.ptr σ.length 0,.fn cf []] (Q σ r A k)=some (.tuple [N i',N j'],Q σ r A k')/\((i'=i/\j'=j)\/(i'=j/\j'=i)):=by
 have hr':r<(σ++[Row.mix [.p (.int .i64 k)]]).length:=by simp; omega
 by_cases h:cmp (ge A j) (ge A i)<0
 ·refine ⟨j,i,IntKind.wrap .i64 (k+1),F162_call ?_,.inr ⟨rfl,rfl⟩⟩
  rw [F162_eq]
  have e1:=Q_load hr A k
  have e2:=Q_store hr hlo A k (IntKind.wrap .i64 (k+1))
  have e3:∀ s off,QY (.ptr s off)=some (.ptr s off):=fun _ _=>rfl
  have e4:∀ i,i<A.length->load PP 102 (.ptr r (i*2)) (Q σ r A k)=some (val (ge A i)):=fun i hi=>ldW hr' hi
  simp (disch:=omega) only [V,N,idxL,e4,Qi,List.append_nil,hc,Qn,ltT,gG,e3,e1,Wa,e2]
 ·refine ⟨i,j,k,F162_call ?_,.inl ⟨rfl,rfl⟩⟩
  rw [F162_eq]
  have e4:∀ i,i<A.length->load PP 102 (.ptr r (i*2)) (Q σ r A k)=some (val (ge A i)):=fun i hi=>ldW hr' hi
  simp (disch:=omega) only [V,N,idxL,e4,Qi,List.append_nil,hc,Qn,ltF,gG]
theorem Jw (x y:DV):Qj (.tuple [x,y]) 0=some x:=rfl
theorem Jv (x y:DV):Qj (.tuple [x,y]) 1=some y:=rfl
include hc in
theorem me_ok (hr:r<σ.length) (hlo:lo<=r) {i j l:Nat} (hi:i<n) (hj:j<n) (hl:l<n) {A:List E} (hA:A.length=n) (k:Int) :
  ∃ m k',CC lo 150 [V r n,N i,N j,N l,.ptr σ.length 0,.fn cf []] (Q σ r A k)=some (N m,Q σ r A k')/\(m=i\/m=j\/m=l):=by
 obtain ⟨i1,j1,k1,e1,h1⟩:=Jq hc hr hlo hi hj hA k
 obtain ⟨i2,j2,k2,e2,h2⟩:=Jq hc hr hlo (i:=j1) (j:=l) (by omega) hl hA k1
 obtain ⟨i3,j3,k3,e3,h3⟩:=Jq hc hr hlo (i:=i1) (j:=i2) (by omega) (by omega) hA k2
 refine ⟨j3,k3,F150_call ?_,by omega⟩
 rw [F150_eq]
 simp only [Qq,List.append_nil,e1,e2,e3,gG,Jw,Jv]
include hc in
theorem Jr (hr:r<σ.length) (hlo:lo<=r) (hn:n<=100000) {i:Nat} (h0:1<=i) (hi:i+1<n) {A:List E} (hA:A.length=n) (k:Int) :
  ∃ m k',CC lo 149 [V r n,N i,.ptr σ.length 0,.fn cf []] (Q σ r A k)=some (N m,Q σ r A k')/\i-1<=m/\m<=i+1:=by
 obtain ⟨m,k1,e1,h1⟩:=me_ok hc hr hlo (i:=i-1) (j:=i) (l:=i+1) (by omega) (by omega) hi hA k
 refine ⟨m,k1,F149_call ?_,by omega⟩
 rw [F149_eq]
 simp only [N] at e1
 simp (disch:=omega) only [N,sub1,add1,Qq,List.append_nil,e1,gG]
theorem cp_J1 (hr:r<σ.length) (A:List E) (k:Int) (p:Nat) (x0 x1 x2 x3 x8 x9 x10 x12 x14 x15 x16 x17 x18 x19 x20 x21 x22 x23 x24 x25 x26 x27 x28 x29 x30 x31 x32 x33 x34 x35 x36 x37 x38 x39 x40 x41 x42 x43 x44 x45 x46 x47 x48 x49 x50 x51 x52 x53 x54:DV) :
  ∃ h:Int,f129_J1 Qb lo x0 x1 x2 x3 x8 x9 x10 (.ptr σ.length 0) x12 (N p) x14 x15 x16 x17 x18 x19 x20 x21 x22 x23 x24 x25 x26 x27 x28 x29 x30 x31 x32 x33 x34 x35 x36 x37 x38 x39 x40 x41 x42 x43 x44 x45 x46 x47 x48 x49 x50 x51 x52 x53 x54 (Q σ r A k)=some (.tuple [N p,.p (.int .i64 h)],Q σ r A k):=by
 rw [f129_J1_eq Qb]
 simp only [Q_load hr,QV,gG]
 by_cases h1:k=0
 ·exact ⟨1,by simp only [eqT h1,gG]⟩
 ·by_cases h2:k=12
  ·exact ⟨2,by simp only [eqF h1,eqT h2,gG]⟩
  ·exact ⟨0,by simp only [eqF h1,eqF h2,gG]⟩
include hc in
theorem cp_J0 (hr:r<σ.length) (hlo:lo<=r) {i j l:Nat} (hi:i<n) (hj:j<n) (hl:l<n) {A:List E} (hA:A.length=n) (k:Int) (x1 x2 x8 x9 x10 x15 x16 x17 x18 x19 x20 x21 x22 x23 x24 x25 x26 x27 x28 x29 x30 x31 x32 x33 x34 x35 x36 x37 x38 x39 x40 x41 x42 x43 x44 x45 x46 x47 x48:DV) :
  ∃ m h k',f129_J0 Qb lo (V r n) x1 x2 (.fn cf []) x8 x9 x10 (.ptr σ.length 0) (N i) (N j) (N l) x15 x16 x17 x18 x19 x20 x21 x22 x23 x24 x25 x26 x27 x28 x29 x30 x31 x32 x33 x34 x35 x36 x37 x38 x39 x40 x41 x42 x43 x44 x45 x46 x47 x48 (Q σ r A k)=some (.tuple [N m,.p (.int .i64 h)],Q σ r A k')/\(m=i\/m=j\/m=l):=by
 obtain ⟨m,k',e1,h1⟩:=me_ok hc hr hlo hi hj hl hA k
 rw [f129_J0_eq Qb]
 simp only [Qq,List.append_nil,e1,gG]
 obtain ⟨h,e2⟩:=cp_J1 (lo:=lo) hr A k' m _ _ _ _ _ _ _ _ _ _ _ _ _ _ _ _ _ _ _ _ _ _ _ _ _ _ _ _ _ _ _ _ _ _ _ _ _ _ _ _ _ _ _ _ _ _ _ _ _
 exact ⟨m,h,k',e2,h1⟩
theorem quo4 {l:Nat} (h:l<=1000000):binOp PP .quo 3 (.p (.int .i64 (l:Nat))) (.p (.int .i64 4))=some (.p (.int .i64 ((l / 4:Nat):Int))):=by
 have e3:((l:Nat):Int).tdiv 4=((l / 4:Nat):Int):=by rw [Int.tdiv_eq_ediv_of_nonneg (by omega)]; omega
 have e4:binOp PP .quo 3 (.p (.int .i64 ((l:Nat):Int))) (.p (.int .i64 4))=some (.p (.int .i64 (IntKind.wrap .i64 (((l:Nat):Int).tdiv 4)))):=Eq.trans rfl rfl
 rw [e4,e3,QE (by omega) (by omega)]
theorem mulC {a c:Nat} (h:a<=1000000) (hc:c<=3):binOp PP .mul 3 (.p (.int .i64 (a:Nat))) (.p (.int .i64 (c:Nat)))=some (.p (.int .i64 ((a*c:Nat):Int))):=by
 have:a*c<=1000000*3:=Nat.mul_le_mul h hc
 rw [b_mul,QE (by have:=Int.natCast_nonneg (a*c); rw [Int.natCast_mul] at this; omega) (by rw [<-Int.natCast_mul]; omega)]
 rfl
theorem mul1 {a:Nat} (h:a<=1000000):binOp PP .mul 3 (.p (.int .i64 (a:Nat))) (.p (.int .i64 1))=some (.p (.int .i64 ((a:Nat):Int))):=(mulC (c:=1) h (by omega)).trans (by rw [Nat.mul_one])
theorem mulB {a:Nat} (h:a<=1000000):binOp PP .mul 3 (.p (.int .i64 (a:Nat))) (.p (.int .i64 2))=some (.p (.int .i64 ((a*2:Nat):Int))):=mulC (c:=2) h (by omega)
theorem mulD {a:Nat} (h:a<=1000000):binOp PP .mul 3 (.p (.int .i64 (a:Nat))) (.p (.int .i64 3))=some (.p (.int .i64 ((a*3:Nat):Int))):=mulC (c:=3) h (by omega)
theorem z3:Qx PP 3=some [.p (.int .i64 0)]:=Eq.trans (by kernel_rfl) rfl
include hc in
theorem cp_ok (hr:r<σ.length) (hlo:lo<=r) (hn:n<=100000) {a b:Nat} (hab:a+12<b) (hb:b<=n) {A:List E} (hA:A.length=n) :
  ∃ p h k',CC lo 129 [V r n,N a,N b,.fn cf []] (W σ r A)=some (.tuple [N p,.p (.int .i64 h)],Q σ r A k')/\a<=p/\p<b:=by
 have hw:(W σ r A)++[Row.mix [.p (.int .i64 0)]]=Q σ r A 0:=W_snoc hr A _
 have hl:List.length (W σ r A)=σ.length:=W_len _ _ _
 by_cases h50:b-a<50
 ·obtain ⟨m,h,k',e1,h1⟩:=cp_J0 (lo:=lo) hc hr hlo (i:=a+(b-a) / 4) (j:=a+(b-a) / 4*2) (l:=a+(b-a) / 4*3) (by omega) (by omega) (by omega) hA 0 _ _ _ _ _ _ _ _ _ _ _ _ _ _ _ _ _ _ _ _ _ _ _ _ _ _ _ _ _ _ _ _ _ _ _ _ _ _ _
  refine ⟨m,h,k',F129_call ?_,by omega,by omega⟩
  rw [F129_eq]
  simp (disch:=omega) only [V,N,subN,z3,quo4,mul1,mulB,mulD,addN,Zj,geT,geF,gG,hw,hl]
  exact e1
 ·obtain ⟨m1,k1,f1,g1⟩:=Jr hc hr hlo hn (i:=a+(b-a) / 4) (by omega) (by omega) hA 0
  obtain ⟨m2,k2,f2,g2⟩:=Jr hc hr hlo hn (i:=a+(b-a) / 4*2) (by omega) (by omega) hA k1
  obtain ⟨m3,k3,f3,g3⟩:=Jr hc hr hlo hn (i:=a+(b-a) / 4*3) (by omega) (by omega) hA k2
  obtain ⟨m,h,k',e1,h1⟩:=cp_J0 (lo:=lo) hc hr hlo (i:=m1) (j:=m2) (l:=m3) (by omega) (by omega) (by omega) hA k3 _ _ _ _ _ _ _ _ _ _ _ _ _ _ _ _ _ _ _ _ _ _ _ _ _ _ _ _ _ _ _ _ _ _ _ _ _ _ _
  refine ⟨m,h,k',F129_call ?_,by omega,by omega⟩
  rw [F129_eq]
  simp only [V,N] at f1 f2 f3
  simp (disch:=omega) only [V,N,subN,z3,quo4,mul1,mulB,mulD,addN,Zj,geT,gG,hw,hl,Qq,List.append_nil]
  rw [f1]
  simp only [gG]
  rw [f2]
  simp only [gG]
  rw [f3]
  simp only [gG]
  exact e1
end
end Go.D.StS
end
/- The length of numbers in bits, the library's small random numbers, and the breaking of patterns. -/
section
set_option linter.unusedVariables false
set_option linter.unusedSimpArgs false
namespace Go.D.StS
open Go.D.Srt
theorem tab_ok:(List.range 256).all (fun m=>match UJ[m]? with | some b=>decide (2 ^ b.toNat<=2*max m 1)&&decide (b.toNat<=8) | none=>false)=true:=by decide +kernel
theorem tab_at {m:Nat} (h:m<256):∃ b,UJ[m]?=some b/\2 ^ b.toNat<=2*max m 1/\b.toNat<=8:=by
 have h1:=List.all_eq_true.1 tab_ok m (List.mem_range.2 h)
 cases e:UJ[m]? with
 | none=>rw [e] at h1; simp at h1
 | some b=>
  rw [e] at h1
  simp only [Bool.and_eq_true,decide_eq_true_eq] at h1
  exact ⟨b,rfl,h1⟩
theorem UK {x:Int} (h0:0<=x) (h1:x<18446744073709551616):IntKind.wrap .u64 x=x:=by
 simp [IntKind.wrap,IntKind.signed,IntKind.bits]
 omega
theorem wrapB {x:Int} (h0:0<=x) (h1:x<256):IntKind.wrap .u8 x=x:=by
 simp [IntKind.wrap,IntKind.signed,IntKind.bits]
 omega
abbrev U (i:Nat):DV:=.p (.int .u64 (i:Int))
theorem geqU (t:TypeId) (a b:Int):binOp PP .geq t (.p (.int .u64 a)) (.p (.int .u64 b))=some (.p (.bool (decide (a>=b)))):=Eq.trans rfl rfl
theorem shr16 (t:TypeId) (n:Nat):binOp PP .shr t (.p (.int .u64 (n:Int))) (.p (.int .u64 16))=some (.p (.int .u64 ((n / 65536:Nat):Int))):=by
 have e:binOp PP .shr t (.p (.int .u64 (n:Int))) (.p (.int .u64 16))=some (.p (.int .u64 ((n:Int).fdiv (2 ^ 16)))):=Eq.trans rfl rfl
 rw [e,Int.fdiv_eq_ediv_of_nonneg _ (by decide)]
 congr 3
theorem shr8 (t:TypeId) (n:Nat):binOp PP .shr t (.p (.int .u64 (n:Int))) (.p (.int .u64 8))=some (.p (.int .u64 ((n / 256:Nat):Int))):=by
 have e:binOp PP .shr t (.p (.int .u64 (n:Int))) (.p (.int .u64 8))=some (.p (.int .u64 ((n:Int).fdiv (2 ^ 8)))):=Eq.trans rfl rfl
 rw [e,Int.fdiv_eq_ediv_of_nonneg _ (by decide)]
 congr 3
theorem cv_ub {m:Nat} (h:m<256):convert PP 178 5 (.p (.int .u64 (m:Int)))=some (.p (.int .u8 (m:Int))):=by
 have e:convert PP 178 5 (.p (.int .u64 (m:Int)))=some (.p (.int .u8 (IntKind.wrap .u8 m))):=Eq.trans (by kernel_rfl) rfl
 rw [e,wrapB (by omega) (by omega)]
theorem cv_bi {m:Nat} (h:m<256):convert PP 5 3 (.p (.int .u8 (m:Int)))=some (.p (.int .i64 (m:Int))):=by
 have e:convert PP 5 3 (.p (.int .u8 (m:Int)))=some (.p (.int .i64 (IntKind.wrap .i64 m))):=Eq.trans (by kernel_rfl) rfl
 rw [e,QE (by omega) (by omega)]
theorem Ji {m:Nat} (h:m<=1000000):convert PP 3 165 (.p (.int .i64 (m:Int)))=some (.p (.int .u64 (m:Int))):=by
 have e:convert PP 3 165 (.p (.int .i64 (m:Int)))=some (.p (.int .u64 (IntKind.wrap .u64 m))):=Eq.trans (by kernel_rfl) rfl
 rw [e,UK (by omega) (by omega)]
theorem cv_ix {m:Nat} (h:m<=1000000):convert PP 3 185 (.p (.int .i64 (m:Int)))=some (.p (.int .u64 (m:Int))):=by
 have e:convert PP 3 185 (.p (.int .i64 (m:Int)))=some (.p (.int .u64 (IntKind.wrap .u64 m))):=Eq.trans (by kernel_rfl) rfl
 rw [e,UK (by omega) (by omega)]
theorem cv_ui {m:Nat} (h:m<=1000000):convert PP 165 3 (.p (.int .u64 (m:Int)))=some (.p (.int .i64 (m:Int))):=by
 have e:convert PP 165 3 (.p (.int .u64 (m:Int)))=some (.p (.int .i64 (IntKind.wrap .i64 m))):=Eq.trans (by kernel_rfl) rfl
 rw [e,QE (by omega) (by omega)]
theorem uTS:PP.underlying 9=some .string:=Eq.trans (by kernel_rfl) rfl
theorem idx_tab {m:Nat} {b:UInt8} (h:UJ[m]?=some b):index PP 9 (.p (.str UJ)) (.p (.int .u8 (m:Int)))=some (.p (.int .u8 b.toNat)):=by
 have h0:(0:Int)<=(m:Int):=by omega
 simp only [index,uTS,h0,if_true,Int.toNat_natCast,h]
theorem L64_J2 {m c:Nat} (hm:m<256) (hc:c<=100) (x3 x4 x5 x6 x7 x8 x9 x10 x11 x12 x13 x14 x15 x16 x17 x18:DV) (σ:Qa):∃ b:Nat,f135_J2 Qb 0 (U m) (N c) x3 x4 x5 x6 x7 x8 x9 x10 x11 x12 x13 x14 x15 x16 x17 x18 σ=some (N (c+b),σ)/\2 ^ b<=2*max m 1/\b<=8:=by
 obtain ⟨b,h1,h2,h3⟩:=tab_at hm
 refine ⟨b.toNat,?_,h2,h3⟩
 rw [f135_J2_eq Qb]
 simp (disch:=omega) only [U,N,cv_ub hm,idx_tab h1,gG]
 rw [cv_bi (by omega)]
 simp (disch:=omega) only [addN,gG]
theorem L64_run {n:Nat} (hn:n<=1000000):∃ b:Nat,F135 Qb 0 (U n) []=some (N b,[])/\2 ^ b<=2*max n 1/\b<=24:=by
 rw [F135_eq]
 have h0:¬ ((n:Int)>=4294967296):=by omega
 have a8:binOp PP .add 3 (.p (.int .i64 0)) (.p (.int .i64 8))=some (N 8):=by rw [Wa]; rfl
 have a16:binOp PP .add 3 (.p (.int .i64 0)) (.p (.int .i64 16))=some (N 16):=by rw [Wa]; rfl
 by_cases h1:n<256
 ·obtain ⟨b,e,h2,h3⟩:=L64_J2 (c:=0) h1 (by omega) _ _ _ _ _ _ _ _ _ _ _ _ _ _ _ _ []
  refine ⟨b,?_,h2,by omega⟩
  simp (disch:=omega) only [U,N,geqU,geF,gG,f135_J0_eq,f135_J1_eq]
  rw [Nat.zero_add] at e
  exact e
 ·by_cases h4:n<65536
  ·obtain ⟨b,e,h2,h3⟩:=L64_J2 (m:=n / 256) (c:=8) (by omega) (by omega) _ _ _ _ _ _ _ _ _ _ _ _ _ _ _ _ []
   refine ⟨8+b,?_,?_,by omega⟩
   ·simp (disch:=omega) only [U,N,geqU,geF,geT,gG,f135_J0_eq,f135_J1_eq,shr8,a8]
    exact e
   ·rw [Nat.pow_add]; omega
  ·obtain ⟨b,e,h2,h3⟩:=L64_J2 (m:=n / 65536) (c:=16) (by omega) (by omega) _ _ _ _ _ _ _ _ _ _ _ _ _ _ _ _ []
   refine ⟨16+b,?_,?_,by omega⟩
   ·simp (disch:=omega) only [U,N,geqU,geF,geT,gG,f135_J0_eq,f135_J1_eq,shr16,a16]
    exact e
   ·rw [Nat.pow_add]; omega
theorem Jj {n:Nat} (hn:n<=1000000):∃ b:Nat,(∀ σ,Qv CC 122 [U n] σ=some (N b))/\2 ^ b<=2*max n 1/\b<=24:=by
 obtain ⟨b,e,h2,h3⟩:=L64_run hn
 refine ⟨b,fun σ=>?_,h2,h3⟩
 have h1:∀ σ,Qv CC 135 [U n] σ=some (N b):=fun σ=>Qk rfl rfl (F135_call e) rfl
 refine Qk rfl rfl (F122_call (r:=(N b,[])) ?_) rfl
 rw [F122_eq]
 simp only [U,N] at h1
 simp only [U,N,gG,Qi,List.append_nil,h1]
theorem np_ok {n:Nat} (hn:n<=1000000):∃ m:Nat,(∀ σ,Qv CC 147 [N n] σ=some (U m))/\m<=2*max n 1/\1<=m:=by
 obtain ⟨b,e,h2,h3⟩:=Jj hn
 have hb:2 ^ b<=2 ^ 24:=Nat.pow_le_pow_right (by decide) h3
 refine ⟨2 ^ b,fun σ=>Qk rfl rfl (F147_call (r:=(U (2 ^ b),[])) ?_) rfl,h2,Nat.pos_of_ne_zero (by simp)⟩
 have e1:binOp PP .shl 165 (.p (.int .u64 1)) (.p (.int .i64 (b:Nat)))=some (.p (.int .u64 ((2 ^ b:Nat):Int))):=by
  have e2:binOp PP .shl 165 (.p (.int .u64 1)) (.p (.int .i64 (b:Nat)))=some (.p (.int .u64 (IntKind.wrap .u64 (1*2 ^ (min b 64))))):=by
   have h0:¬ ((b:Nat):Int)<0:=by omega
   have e5:IntKind.bits .u64=64:=rfl
   simp only [binOp,binShift,h0,if_false,Int.toNat_natCast,Option.map_some,e5]
  have e3:(1:Int)*2 ^ (min b 64)=((2 ^ b:Nat):Int):=by rw [Nat.min_eq_left (by omega)]; simp
  have e6:((2 ^ b:Nat):Int)<18446744073709551616:=by omega
  rw [e2,e3,UK (Int.natCast_nonneg _) e6]
 simp only [U] at e
 rw [F147_eq]
 simp (disch:=omega) only [U,N,Ji,gG,Qi,List.append_nil,e,e1]
def QU (σ:Qa) (r:Nat) (A:List E) (k:Int):Qa:=W (σ++[Row.mix [.p (.int .u64 k)]]) r A
section
variable {r n lo : Nat} {σ : Qa}
theorem QU_load (hr:r<σ.length) (A:List E) (k:Int):load PP 185 (.ptr σ.length 0) (QU σ r A k)=some (.p (.int .u64 k)):=by
 have e:∀ x σ,load PP 185 x σ=ZX x σ:=fun x σ=>Eq.trans (by kernel_rfl) rfl
 rw [e,Qc (off:=0) (cs:=[.p (.int .u64 k)]) ?_ rfl]
 exact Qu QB (by omega)
theorem sX:size? PP 185=some 1:=Eq.trans (by kernel_rfl) rfl
theorem QU_store (hr:r<σ.length) (hlo:lo<=r) (A:List E) (k k':Int):store PP lo 185 (.ptr σ.length 0) (.p (.int .u64 k')) (QU σ r A k)=some (QU σ r A k'):=by
 have h1:(QU σ r A k)[σ.length]?=some (.mix [.p (.int .u64 k)]):=Qu QB (by omega)
 have h2:lo<=σ.length:=by omega
 have h3:(QU σ r A k).set σ.length (.mix [.p (.int .u64 k')])=QU σ r A k':=by
  unfold QU
  rw [W,List.set_comm _ _ (by omega),List.set_append_right _ _ (Nat.le_refl _),Nat.sub_self]
  rfl
 simp only [store,sX,DV.cells,List.length_singleton,if_true,Zo,h2,h1]
 rw [<-h3]
 rfl
theorem shlX (t:TypeId) (a:Int):∃ v,binOp PP .shl t (.p (.int .u64 a)) (.p (.int .u64 13))=some (.p (.int .u64 v)):=⟨_,Eq.trans rfl rfl⟩
theorem shrX (t:TypeId) (a:Int):∃ v,binOp PP .shr t (.p (.int .u64 a)) (.p (.int .u64 7))=some (.p (.int .u64 v)):=⟨_,Eq.trans rfl rfl⟩
theorem shlY (t:TypeId) (a:Int):∃ v,binOp PP .shl t (.p (.int .u64 a)) (.p (.int .u64 17))=some (.p (.int .u64 v)):=⟨_,Eq.trans rfl rfl⟩
theorem xorX (t:TypeId) (a b:Int):∃ v,binOp PP .xor t (.p (.int .u64 a)) (.p (.int .u64 b))=some (.p (.int .u64 v)):=⟨_,Eq.trans rfl rfl⟩
theorem andX (t:TypeId) (a:Int) {b:Nat} (hb:b<18446744073709551616):∃ m:Nat,binOp PP .and t (.p (.int .u64 a)) (.p (.int .u64 (b:Int)))=some (.p (.int .u64 (m:Int)))/\m<=b:=by
 have e:binOp PP .and t (.p (.int .u64 a)) (.p (.int .u64 (b:Int)))=some (.p (.int .u64 (IntKind.wrap .u64 (BitVec.ofInt 64 a&&& BitVec.ofInt 64 (b:Int)).toNat))):=Eq.trans rfl rfl
 have h:(BitVec.ofInt 64 a&&& BitVec.ofInt 64 (b:Int)).toNat<=b:=by
  rw [BitVec.toNat_and]
  refine Nat.le_trans Nat.and_le_right ?_
  rw [BitVec.toNat_ofInt]
  omega
 exact ⟨_,by rw [e,UK (by omega) (by omega)],h⟩
theorem nx_ok (hr:r<σ.length) (hlo:lo<=r) (A:List E) (k:Int):∃ k',CC lo 148 [.ptr σ.length 0] (QU σ r A k)=some (.p (.int .u64 k'),QU σ r A k'):=by
 obtain ⟨v1,h1⟩:=shlX 185 k
 obtain ⟨v2,h2⟩:=xorX 185 k v1
 obtain ⟨v3,h3⟩:=shrX 185 v2
 obtain ⟨v4,h4⟩:=xorX 185 v2 v3
 obtain ⟨v5,h5⟩:=shlY 185 v4
 obtain ⟨v6,h6⟩:=xorX 185 v4 v5
 refine ⟨v6,F148_call ?_⟩
 have e3:∀ s off,QY (.ptr s off)=some (.ptr s off):=fun _ _=>rfl
 rw [F148_eq]
 simp only [e3,gG,QU_load hr,h1,h2,h3,h4,h5,h6,QU_store hr hlo]
theorem bp_J0 (hr:r<σ.length) (hlo:lo<=r) (hn:n<=100000) {a idx o:Nat} (h1:idx<n) (h2:a+o<n) {A:List E} (hA:A.length=n) (k:Int) (x8 x9 x10 x28 x29 x30 x31 x32 x33 x34 x35 x38 x39 x40 x41 x42 x43 x44 x45 x46 x47 x48:DV) :
  f128_J0 Qb lo (V r n) (N a) x8 x9 x10 (N idx) (N o) x28 x29 x30 x31 x32 x33 x34 x35 x38 x39 x40 x41 x42 x43 x44 x45 x46 x47 x48 (QU σ r A k)=f128_L0 Qb lo (V r n) (N a) x8 x9 x10 (N (idx+1)) (QU σ r (swp A idx (a+o)) k):=by
 have hr':r<(σ++[Row.mix [.p (.int .u64 k)]]).length:=by simp; omega
 have h3:(A.set idx (ge A (a+o))).length=n:=by rw [QW]; exact hA
 rw [f128_J0_eq Qb]
 simp (disch:=omega) only [V,N,QU,addN,idxL,ldW,stW,add1,gG,swp]
theorem Jy (hr:r<σ.length) (hlo:lo<=r) (hn:n<=100000) {a b m:Nat} (hab:a+12<b) (hb:b<=n) (hm:m<=2*(b-a)) (hm1:1<=m):∀ (d idx:Nat) (A:List E) (k:Int),a+(b-a) / 4*2+2-idx=d->a<=idx->A.length=n->
  ∃ B k',RP a b A B/\f128_L0 Qb lo (V r n) (N a) (N (b-a)) (.ptr σ.length 0) (U m) (N idx) (QU σ r A k)=some (.tuple [],QU σ r B k')
 | 0,idx,A,k,hd,hi,hA=>by
  refine ⟨A,k,RP.refl _ _ _,?_⟩
  rw [f128_L0_eq Qb rfl]
  simp (disch:=omega) only [V,N,quo4,mulB,addN,add1,QX,leF,gG]
 | d+1,idx,A,k,hd,hi,hA=>by
  obtain ⟨k1,e1⟩:=nx_ok hr hlo A k
  obtain ⟨o,e2,h2⟩:=andX 165 k1 (b:=m-1) (by omega)
  have e3:binOp PP .sub 165 (.p (.int .u64 (m:Int))) (.p (.int .u64 1))=some (.p (.int .u64 ((m-1:Nat):Int))):=by
   have e4:binOp PP .sub 165 (.p (.int .u64 (m:Int))) (.p (.int .u64 1))=some (.p (.int .u64 (IntKind.wrap .u64 ((m:Int)-1)))):=Eq.trans rfl rfl
   rw [e4,UK (by omega) (by omega)]
   congr 3
   omega
  by_cases h:b-a<=o
  ·obtain ⟨B,k',g1,g2⟩:=Jy hr hlo hn hab hb hm hm1 d (idx+1) (swp A idx (a+(o-(b-a)))) k1 (by omega) (by omega) (by rw [Qy]; exact hA)
   refine ⟨B,k',(RP.swap (a:=a) (b:=b) (i:=idx) (j:=a+(o-(b-a))) ⟨hi,by omega⟩ ⟨by omega,by omega⟩ (by omega)).trans g1,?_⟩
   rw [f128_L0_eq Qb rfl]
   simp (disch:=omega) only [V,N,quo4,mulB,addN,add1,QX,leT,gG,Qq,List.append_nil,e1,U,e3,e2,cv_ui,Zj,geT,subN]
   exact (bp_J0 hr hlo hn (by omega) (by omega) hA k1 _ _ _ _ _ _ _ _ _ _ _ _ _ _ _ _ _ _ _ _ _ _).trans g2
  ·obtain ⟨B,k',g1,g2⟩:=Jy hr hlo hn hab hb hm hm1 d (idx+1) (swp A idx (a+o)) k1 (by omega) (by omega) (by rw [Qy]; exact hA)
   refine ⟨B,k',(RP.swap (a:=a) (b:=b) (i:=idx) (j:=a+o) ⟨hi,by omega⟩ ⟨by omega,by omega⟩ (by omega)).trans g1,?_⟩
   rw [f128_L0_eq Qb rfl]
   simp (disch:=omega) only [V,N,quo4,mulB,addN,add1,QX,leT,gG,Qq,List.append_nil,e1,U,e3,e2,cv_ui,Zj,geF]
   exact (bp_J0 hr hlo hn (by omega) (by omega) hA k1 _ _ _ _ _ _ _ _ _ _ _ _ _ _ _ _ _ _ _ _ _ _).trans g2
theorem zX:Qx PP 185=some [.p (.int .u64 0)]:=Eq.trans (by kernel_rfl) rfl
theorem bp_ok (hr:r<σ.length) (hlo:lo<=r) (hn:n<=100000) {a b:Nat} (hab:a+12<b) (hb:b<=n) {A:List E} (hA:A.length=n) (y:DV) :
  ∃ B k',RP a b A B/\CC lo 128 [V r n,N a,N b,y] (W σ r A)=some (.tuple [],QU σ r B k'):=by
 obtain ⟨m,e1,h1,h2⟩:=np_ok (n:=b-a) (by omega)
 have hm:max (b-a) 1=b-a:=by omega
 rw [hm] at h1
 obtain ⟨B,k',g1,g2⟩:=Jy hr hlo hn hab hb h1 h2 _ (a+(b-a) / 4*2-1) A ((b-a:Nat):Int) rfl (by omega) hA
 refine ⟨B,k',g1,F128_call ?_⟩
 have hw:(W σ r A)++[Row.mix [.p (.int .u64 0)]]=QU σ r A 0:=W_snoc hr A _
 have hl:List.length (W σ r A)=σ.length:=W_len _ _ _
 simp only [N,U] at e1
 rw [F128_eq]
 simp (disch:=omega) only [V,N,subN,Zj,geT,gG,cv_ix,zX,hw,hl,QU_store,Qi,List.append_nil,e1,quo4,mulB,addN,sub1]
 exact g2
end
end Go.D.StS
end
/- pdqsort over elements of type 102: it sorts. -/
section
set_option linter.unusedVariables false
set_option linter.unusedSimpArgs false
namespace Go.D.StS
open Go.D.Srt
abbrev I (x:Int):DV:=.p (.int .i64 x)
abbrev Bo (b:Bool):DV:=.p (.bool b)
def Goal (cmp:E->E->Int) (r a b:Nat) (A:List E) (σ:Qa) (res:Option (DV×Qa)):Prop:=
 ∃ B σ',res=some (.tuple [],W σ' r B)/\RP a b A B/\Sd (ltc cmp) a b B/\∃ e,σ'=σ++e
def Low (cmp:E->E->Int) (a b:Nat) (A:List E):Prop:=0<a->∀ p,a<=p->p<b->ltc cmp (ge A p) (ge A (a-1))=false
theorem Goal.mono {cmp:E->E->Int} {r a b:Nat} {A A0:List E} {σ σ0:Qa} {res:Option (DV×Qa)} (h:Goal cmp r a b A0 σ0 res) (h1:RP a b A A0) (h2:∃ e,σ0=σ++e):Goal cmp r a b A σ res:=by
 obtain ⟨B,σ',e1,e2,e3,x,e4⟩:=h
 obtain ⟨y,rfl⟩:=h2
 exact ⟨B,σ',e1,h1.trans e2,e3,y++x,by rw [e4,List.append_assoc]⟩
theorem Low.perm {cmp:E->E->Int} {a b:Nat} {A B:List E} (h:Low cmp a b A) (h1:RP a b A B):Low cmp a b B:=by
 intro h0 p g1 g2
 rw [h1.out (a-1) (by omega)]
 exact h1.all (fun x=>ltc cmp x (ge A (a-1))=false) (h h0) p g1 g2
section
variable {cf : FuncId} {cmp : E -> E -> Int} (hc : ∀ (x y : E) (σ : Qa), Qv CC cf [val x, val y] σ = some (.p (.int .i64 (cmp x y)))) (H : Ord (ltc cmp))
variable {r n lo : Nat}
def IH (cf:FuncId) (cmp:E->E->Int) (r n lo m:Nat):Prop:=∀ (a b:Nat) (A:List E) (lim:Int) (wb wp:Bool) (σ:Qa),b-a<m->a<=b->b<=n->A.length=n->Low cmp a b A->r<σ.length->
 Goal cmp r a b A σ (f121_L0 Qb lo (V r n) (N a) (N b) (I lim) (.fn cf []) (Bo wb) (Bo wp) (W σ r A))
theorem subI (t:TypeId) (a b:Int):binOp PP .sub t (.p (.int .i64 a)) (.p (.int .i64 b))=some (.p (.int .i64 (IntKind.wrap .i64 (a-b)))):=Eq.trans rfl rfl
theorem quo8 {l:Nat} (h:l<=1000000):binOp PP .quo 3 (.p (.int .i64 (l:Nat))) (.p (.int .i64 8))=some (.p (.int .i64 ((l / 8:Nat):Int))):=by
 have e3:((l:Nat):Int).tdiv 8=((l / 8:Nat):Int):=by rw [Int.tdiv_eq_ediv_of_nonneg (by omega)]; omega
 have e4:binOp PP .quo 3 (.p (.int .i64 ((l:Nat):Int))) (.p (.int .i64 8))=some (.p (.int .i64 (IntKind.wrap .i64 (((l:Nat):Int).tdiv 8)))):=Eq.trans rfl rfl
 rw [e4,e3,QE (by omega) (by omega)]
include hc H in
theorem pq_part (hlo:lo<=r) (hn:n<=100000) {a b p:Nat} (ih:IH cf cmp r n lo (b-a)) (hab:a+12<b) (hb:b<=n) (hp1:a<=p) (hp2:p<b) {A:List E} (hA:A.length=n) (hL:Low cmp a b A) (lim:Int) (y:DV) {σ:Qa} (hr:r<σ.length) :
  Goal cmp r a b A σ ((Qd CC lo (DV.fn 133 []) [V r n,N a,N b,N p,.fn cf []] (W σ r A)).bind fun r111_24=>
   (Qj r111_24.1 0).bind fun x112=>
   (Qj r111_24.1 1).bind fun x113=>
   (binOp PP .sub 3 x112 (N a)).bind fun x117=>
   (binOp PP .sub 3 (N b) x112).bind fun x120=>
   (binOp PP .quo 3 (N (b-a)) (DV.p (PV.int IntKind.i64 (8)))).bind fun x122=>
   (binOp PP .lss 3 x117 x120).bind fun x125=>
   Qh x125
   (
   (binOp PP .geq 3 x117 x122).bind fun x128=>
   (Qd CC lo (DV.fn 121 []) [V r n,N a,x112,I lim,.fn cf []] r111_24.2).bind fun r134_25=>
   (binOp PP .add 3 x112 (DV.p (PV.int IntKind.i64 (1)))).bind fun x136=>
   f121_L0 Qb lo (V r n) x136 (N b) (I lim) (.fn cf []) x128 x113 r134_25.2
   )
   (
   (binOp PP .geq 3 x120 x122).bind fun x139=>
   (binOp PP .add 3 x112 (DV.p (PV.int IntKind.i64 (1)))).bind fun x142=>
   (Qd CC lo (DV.fn 121 []) [V r n,x142,N b,I lim,.fn cf []] r111_24.2).bind fun r146_26=>
   f121_L0 Qb lo (V r n) (N a) x112 (I lim) (.fn cf []) x139 x113 r146_26.2
   )):=by
 obtain ⟨f,e1⟩:=pa_ok hc hr hlo hn (show a<b by omega) hb (show p<n by omega) A hA
 have r1:RP a b A (swp A a p):=RP.swap ⟨by omega,by omega⟩ ⟨hp1,hp2⟩ (by omega)
 have hm:=prt_mid H (a:=a) (b:=b) (A:=swp A a p) (by omega) (by rw [Qy]; omega)
 have hm:a<=(prt (uA cmp) (vA cmp) a (b-a+1) (a+1) (b-1) (swp A a p)).2.1/\(prt (uA cmp) (vA cmp) a (b-a+1) (a+1) (b-1) (swp A a p)).2.1<b/\RP a b (swp A a p) (swp (prt (uA cmp) (vA cmp) a (b-a+1) (a+1) (b-1) (swp A a p)).2.2 (prt (uA cmp) (vA cmp) a (b-a+1) (a+1) (b-1) (swp A a p)).2.1 a)/\Mid (ltc cmp) a b (prt (uA cmp) (vA cmp) a (b-a+1) (a+1) (b-1) (swp A a p)).2.1 (swp (prt (uA cmp) (vA cmp) a (b-a+1) (a+1) (b-1) (swp A a p)).2.2 (prt (uA cmp) (vA cmp) a (b-a+1) (a+1) (b-1) (swp A a p)).2.1 a):=hm
 generalize (swp (prt (uA cmp) (vA cmp) a (b-a+1) (a+1) (b-1) (swp A a p)).2.2 (prt (uA cmp) (vA cmp) a (b-a+1) (a+1) (b-1) (swp A a p)).2.1 a)=A1 at *
 generalize (prt (uA cmp) (vA cmp) a (b-a+1) (a+1) (b-1) (swp A a p)).2.1=m at *
 obtain ⟨m1,m2,m3,m4⟩:=hm
 have rA:RP a b A A1:=r1.trans m3
 have hL1:=hL.perm rA
 have hA1:A1.length=n:=rA.len.trans hA
 simp only [Qq,List.append_nil,e1,gG,Jw,Jv]
 by_cases hlt:m-a<b-m
 ·
  have hLl:Low cmp a m A1:=fun h0 p g1 g2=>hL1 h0 p g1 (by omega)
  obtain ⟨B,σ1,g1,g2,g3,x,rfl⟩:=ih a m A1 lim true true σ (by omega) m1 (by omega) hA1 hLl hr
  have c1:CC lo 121 [V r n,N a,N m,I lim,.fn cf []] (W σ r A1)=some (.tuple [],W (σ++x) r B):=F121_call (by rw [F121_eq]; exact g1)
  have hLr:Low cmp (m+1) b B:=fun h0 p k1 k2=>by
   rw [g2.out p (by omega),g2.out (m+1-1) (by omega)]
   exact m4.2 p (by omega) k2
  obtain ⟨C,σ2,q1,q2,q3,z,rfl⟩:=ih (m+1) b B lim (decide (((m-a:Nat):Int)>=(((b-a) / 8:Nat):Int))) f (σ++x) (by omega) (by omega) hb (g2.len.trans hA1) hLr (by rw [List.length_append]; omega)
  have gl:=glue H (a:=a) (b:=b) (m:=m) ⟨m1,m2⟩ m4 g2 g3 q2 q3
  refine ⟨C,_,?_,rA.trans gl.1,gl.2,x++z,List.append_assoc _ _ _⟩
  simp only [V,N,I] at c1
  simp (disch:=omega) only [V,N,I,subN,quo8,Qn,ltT,gG,Zj]
  rw [c1]
  simp (disch:=omega) only [gG,add1]
  exact q1
 ·have hLr:Low cmp (m+1) b A1:=fun h0 p k1 k2=>m4.2 p (by omega) k2
  obtain ⟨B,σ1,g1,g2,g3,x,rfl⟩:=ih (m+1) b A1 lim true true σ (by omega) (by omega) hb hA1 hLr hr
  have c1:CC lo 121 [V r n,N (m+1),N b,I lim,.fn cf []] (W σ r A1)=some (.tuple [],W (σ++x) r B):=F121_call (by rw [F121_eq]; exact g1)
  have hLl:Low cmp a m B:=fun h0 p k1 k2=>by
   rw [g2.out p (by omega),g2.out (a-1) (by omega)]
   exact hL1 h0 p k1 (by omega)
  obtain ⟨C,σ2,q1,q2,q3,z,rfl⟩:=ih a m B lim (decide (((b-m:Nat):Int)>=(((b-a) / 8:Nat):Int))) f (σ++x) (by omega) m1 (by omega) (g2.len.trans hA1) hLl (by rw [List.length_append]; omega)
  have gl:=glue' H (a:=a) (b:=b) (m:=m) ⟨m1,m2⟩ m4 g2 g3 q2 q3
  refine ⟨C,_,?_,rA.trans gl.1,gl.2,x++z,List.append_assoc _ _ _⟩
  simp only [V,N,I] at c1
  simp (disch:=omega) only [V,N,I,subN,quo8,Qn,ltF,gG,Zj,add1]
  rw [c1]
  simp (disch:=omega) only [gG]
  exact q1
include hc H in
theorem Ja (hlo:lo<=r) (hn:n<=100000) {a b p:Nat} (ih:IH cf cmp r n lo (b-a)) (hab:a+12<b) (hb:b<=n) (hp1:a<=p) (hp2:p<b) {A:List E} (hA:A.length=n) (hL:Low cmp a b A) (lim:Int) (wb wp:Bool) {σ:Qa} (hr:r<σ.length) (x14 x21 x22 x23 x24 x25 x31 x32 x38 x39 x40 x41 x42 x43 x44 x45 x46 x47 x48 x49 x50 x51 x52 x53 x54 x55 x56 x57 x58 x59 x60 x61 x62 x63 x64 x65 x66 x67 x68 x69 x70 x71 x72 x73 x74 x75 x76 x77 x78 x79 x80:DV) :
  Goal cmp r a b A σ (f121_J2 Qb lo (V r n) (N a) (N b) (I lim) (.fn cf []) (Bo wb) (Bo wp) (N (b-a)) (N p) x14 x21 x22 x23 x24 x25 x31 x32 x38 x39 x40 x41 x42 x43 x44 x45 x46 x47 x48 x49 x50 x51 x52 x53 x54 x55 x56 x57 x58 x59 x60 x61 x62 x63 x64 x65 x66 x67 x68 x69 x70 x71 x72 x73 x74 x75 x76 x77 x78 x79 x80 (W σ r A)):=by
 have key:=pq_part hc H hlo hn ih hab hb hp1 hp2 hA hL lim x14 hr
 rw [f121_J2_eq Qb]
 by_cases h0:0<a
 ·by_cases h1:cmp (ge A (a-1)) (ge A p)<0
  ·simp (disch:=omega) only [V,N,I,Bo,Zh,gtT,gG,sub1,idxL,ldW,Qi,List.append_nil,hc,Qn,ltT]
   exact key
  ·have e1:=pe_ok hc hr hlo hn (show a<b by omega) hb (show p<n by omega) A hA
   have r1:RP a b A (swp A a p):=RP.swap ⟨by omega,by omega⟩ ⟨hp1,hp2⟩ (by omega)
   have hL1:=hL.perm r1
   have g:=fun k=>Uf (A:=A) (i:=a) (j:=p) (by omega) (by omega) k
   have hpv:ltc cmp (ge (swp A a p) (a-1)) (ge (swp A a p) a)=false:=by
    have e2:ge (swp A a p) a=ge A p:=by
     rw [g]
     by_cases e:a=p
     ·rw [if_pos e,e]
     ·rw [if_neg e,if_pos rfl]
    rw [e2,r1.out (a-1) (by omega)]
    exact decide_eq_false h1
   have hm:=prtE_ok H (a:=a) (b:=b) (A:=swp A a p) (by omega) (by rw [Qy]; omega) (hL1 h0) h0 hpv
   have hm:a<(prt (uE cmp) (vE cmp) a (b-a+1) (a+1) (b-1) (swp A a p)).1/\(prt (uE cmp) (vE cmp) a (b-a+1) (a+1) (b-1) (swp A a p)).1<=b/\RP a b (swp A a p) (prt (uE cmp) (vE cmp) a (b-a+1) (a+1) (b-1) (swp A a p)).2.2/\(∀ q,(prt (uE cmp) (vE cmp) a (b-a+1) (a+1) (b-1) (swp A a p)).1<=q->q<b->ltc cmp (ge (prt (uE cmp) (vE cmp) a (b-a+1) (a+1) (b-1) (swp A a p)).2.2 q) (ge (prt (uE cmp) (vE cmp) a (b-a+1) (a+1) (b-1) (swp A a p)).2.2 ((prt (uE cmp) (vE cmp) a (b-a+1) (a+1) (b-1) (swp A a p)).1-1))=false)/\∀ C,RP (prt (uE cmp) (vE cmp) a (b-a+1) (a+1) (b-1) (swp A a p)).1 b (prt (uE cmp) (vE cmp) a (b-a+1) (a+1) (b-1) (swp A a p)).2.2 C->Sd (ltc cmp) (prt (uE cmp) (vE cmp) a (b-a+1) (a+1) (b-1) (swp A a p)).1 b C->Sd (ltc cmp) a b C:=hm
   simp only [enE] at e1
   generalize (prt (uE cmp) (vE cmp) a (b-a+1) (a+1) (b-1) (swp A a p)).2.2=A1 at *
   generalize (prt (uE cmp) (vE cmp) a (b-a+1) (a+1) (b-1) (swp A a p)).1=m at *
   obtain ⟨m1,m2,m3,m4,m5⟩:=hm
   obtain ⟨C,σ1,q1,q2,q3,z,rfl⟩:=ih m b A1 lim wb wp σ (by omega) m2 hb ((r1.trans m3).len.trans hA) (fun _ q g1 g2=>m4 q g1 g2) hr
   refine ⟨C,_,?_,(r1.trans m3).trans (q2.mono (by omega) (Nat.le_refl _)),m5 C q2 q3,z,rfl⟩
   simp only [V,N,I,Bo] at e1
   simp (disch:=omega) only [V,N,I,Bo,Zh,gtT,gG,sub1,idxL,ldW,Qi,List.append_nil,hc,Qn,ltF,Qq]
   rw [e1]
   simp only [gG]
   exact q1
 ·simp (disch:=omega) only [V,N,I,Bo,Zh,gtF,gG]
  exact key
include hc H in
theorem pq_J1 (hlo:lo<=r) (hn:n<=100000) {a b p:Nat} (ih:IH cf cmp r n lo (b-a)) (hab:a+12<b) (hb:b<=n) (hp1:a<=p) (hp2:p<b) {A:List E} (hA:A.length=n) (hL:Low cmp a b A) (lim h:Int) (wb wp:Bool) {σ:Qa} (hr:r<σ.length) (x21 x22 x23 x24 x25 x31 x32 x38 x39 x40 x41 x42 x43 x44 x45 x46 x47 x48 x49 x50 x51 x52 x53 x54 x55 x56 x57 x58 x59 x60 x61 x62 x63 x64 x65 x66 x67:DV) :
  Goal cmp r a b A σ (f121_J1 Qb lo (V r n) (N a) (N b) (I lim) (.fn cf []) (Bo wb) (Bo wp) (N (b-a)) (N p) (I h) x21 x22 x23 x24 x25 x31 x32 x38 x39 x40 x41 x42 x43 x44 x45 x46 x47 x48 x49 x50 x51 x52 x53 x54 x55 x56 x57 x58 x59 x60 x61 x62 x63 x64 x65 x66 x67 (W σ r A)):=by
 have e1:=pi_ok hc hr hlo hn hb (show a<b by omega) A hA
 have h1:=pins_ok H (a:=a) (b:=b) 5 (a+1) A (Nat.le_refl _) (by omega) (by omega) hL (fun p q g1 g2 g3=>by omega)
 rw [f121_J1_eq Qb]
 cases wb with
 | false=>simp only [Bo,gG]; exact Ja hc H hlo hn ih hab hb hp1 hp2 hA hL lim false wp hr (I h) _ _ _ _ _ _ _ _ _ _ _ _ _ _ _ _ _ _ _ _ _ _ _ _ _ _ _ _ _ _ _ _ _ _ _ _ _ _ _ _ _ _ _ _ _ _ _ _ _ _
 | true=>
  cases wp with
  | false=>simp only [Bo,gG]; exact Ja hc H hlo hn ih hab hb hp1 hp2 hA hL lim true false hr (I h) _ _ _ _ _ _ _ _ _ _ _ _ _ _ _ _ _ _ _ _ _ _ _ _ _ _ _ _ _ _ _ _ _ _ _ _ _ _ _ _ _ _ _ _ _ _ _ _ _ _
  | true=>
   by_cases hh:h=1
   ·simp only [Bo,gG,I,QV,eqT hh,Qq,List.append_nil]
    rw [e1]
    simp only [gG]
    cases hs:(pins (ltc cmp) a b 5 (a+1) A).1 with
    | true=>
     simp only [gG]
     exact ⟨_,σ,rfl,h1.1,h1.2 hs,[],(List.append_nil _).symm⟩
    | false=>
     simp only [gG]
     exact Goal.mono (Ja hc H hlo hn ih hab hb hp1 hp2 (h1.1.len.trans hA) (hL.perm h1.1) lim true true hr (I h) _ _ _ _ _ _ _ _ _ _ _ _ _ _ _ _ _ _ _ _ _ _ _ _ _ _ _ _ _ _ _ _ _ _ _ _ _ _ _ _ _ _ _ _ _ _ _ _ _ _) h1.1 ⟨[],(List.append_nil _).symm⟩
   ·simp only [Bo,gG,I,QV,eqF hh]
    exact Ja hc H hlo hn ih hab hb hp1 hp2 hA hL lim true true hr (I h) _ _ _ _ _ _ _ _ _ _ _ _ _ _ _ _ _ _ _ _ _ _ _ _ _ _ _ _ _ _ _ _ _ _ _ _ _ _ _ _ _ _ _ _ _ _ _ _ _ _
include hc H in
theorem pq_J0 (hlo:lo<=r) (hn:n<=100000) {a b:Nat} (ih:IH cf cmp r n lo (b-a)) (hab:a+12<b) (hb:b<=n) {A:List E} (hA:A.length=n) (hL:Low cmp a b A) (lim:Int) (wb wp:Bool) {σ:Qa} (hr:r<σ.length) (x21 x22 x23 x24 x25 x31 x32 x38 x39 x40 x41 x42 x43 x44 x45 x46:DV) :
  Goal cmp r a b A σ (f121_J0 Qb lo (V r n) (N a) (N b) (I lim) (.fn cf []) (Bo wb) (Bo wp) (N (b-a)) x21 x22 x23 x24 x25 x31 x32 x38 x39 x40 x41 x42 x43 x44 x45 x46 (W σ r A)):=by
 obtain ⟨p,h,k,e1,p1,p2⟩:=cp_ok hc hr hlo hn hab hb hA
 have hr1:r<(σ++[Row.mix [.p (.int .i64 k)]]).length:=by rw [List.length_append]; omega
 rw [f121_J0_eq Qb]
 simp only [Qq,List.append_nil]
 rw [e1]
 simp only [gG,Jw,Jv,QV]
 by_cases hh:h=2
 ·obtain ⟨B,g1,g2⟩:=rv_ok hr1 hlo hn (show a<b by omega) hb A hA (.fn cf [])
  simp only [V,N] at g2
  simp only [Q,eqT hh,gG,V,N]
  rw [g2]
  simp (disch:=omega) only [gG,sub1,subN]
  exact Goal.mono (pq_J1 hc H hlo hn ih hab hb (show a<=b-1-(p-a) by omega) (by omega) (g1.len.trans hA) (hL.perm g1) lim 1 wb wp hr1 _ _ _ _ _ _ _ _ _ _ _ _ _ _ _ _ _ _ _ _ _ _ _ _ _ _ _ _ _ _ _ _ _ _ _ _ _) g1 ⟨_,rfl⟩
 ·simp only [Q,eqF hh,gG]
  exact Goal.mono (pq_J1 hc H hlo hn ih hab hb p1 p2 hA hL lim h wb wp hr1 _ _ _ _ _ _ _ _ _ _ _ _ _ _ _ _ _ _ _ _ _ _ _ _ _ _ _ _ _ _ _ _ _ _ _ _ _) (RP.refl _ _ _) ⟨_,rfl⟩
include hc H in
theorem pq_all (hlo:lo<=r) (hn:n<=100000):∀ m,IH cf cmp r n lo m
 | 0=>fun a b A lim wb wp σ hm=>by omega
 | m+1=>by
  intro a b A lim wb wp σ hm hab hb hA hL hr
  have ih:IH cf cmp r n lo (b-a):=fun a' b' A' lim' wb' wp' σ' h=>pq_all hlo hn m a' b' A' lim' wb' wp' σ' (by omega)
  rw [f121_L0_eq Qb rfl]
  by_cases h12:b-a<=12
  ·have e1:=ins_ok hc hr hlo hn hb (show a<=n by omega) A hA
   simp only [V,N] at e1
   simp (disch:=omega) only [V,N,I,subN,QX,leT,gG,Qq,List.append_nil]
   rw [e1]
   simp only [gG]
   by_cases he:a=b
   ·subst he
    refine ⟨_,σ,rfl,?_,fun i j h1 h2 h3=>by omega,[],(List.append_nil _).symm⟩
    rw [show a-(a+1)=0 by omega]
    exact RP.refl _ _ _
   ·have h1:=insOut_ok H (a:=a) (b:=b) (b-(a+1)) (a+1) A (by omega) (by omega) (by omega) (fun p q g1 g2 g3=>by omega)
    exact ⟨_,σ,rfl,h1.1,h1.2,[],(List.append_nil _).symm⟩
  ·by_cases h0:lim=0
   ·have e1:=hs_ok hc hr hlo hn (show a<b by omega) hb A hA
    simp only [V,N] at e1
    simp (disch:=omega) only [V,N,I,subN,QX,leF,QV,eqT,gG,Qq,List.append_nil]
    rw [e1]
    simp only [gG]
    have h1:=hpA_ok H (f:=a) (n:=b-a) ((b-a-1) / 2) A (by omega) (by omega) (fun i c g1 g2 g3=>by omega)
    have h2:=hpB_ok H (f:=a) (n:=b-a) (b-a) _ (Nat.le_refl _) (by rw [h1.1.len]; omega) h1.2 (fun p q g1 g2 g3=>by omega) (fun p q g1 g2 g3 g4=>by omega)
    rw [show a+(b-a)=b by omega] at h1 h2
    exact ⟨_,σ,rfl,h1.1.trans h2.1,h2.2,[],(List.append_nil _).symm⟩
   ·cases wb with
    | true=>
     simp (disch:=omega) only [V,N,I,Bo,subN,QX,leF,QV,eqF h0,gG]
     exact pq_J0 hc H hlo hn ih (by omega) hb hA hL lim true wp hr _ _ _ _ _ _ _ _ _ _ _ _ _ _ _ _
    | false=>
     obtain ⟨B,k,g1,g2⟩:=bp_ok hr hlo hn (show a+12<b by omega) hb hA (.fn cf [])
     have hr1:r<(σ++[Row.mix [.p (.int .u64 k)]]).length:=by rw [List.length_append]; omega
     simp only [V,N,QU] at g2
     simp (disch:=omega) only [V,N,I,Bo,subN,QX,leF,QV,eqF h0,gG,Qq,List.append_nil]
     rw [g2]
     simp only [gG,subI]
     exact Goal.mono (pq_J0 hc H hlo hn ih (by omega) hb (g1.len.trans hA) (hL.perm g1) _ false wp hr1 _ _ _ _ _ _ _ _ _ _ _ _ _ _ _ _) g1 ⟨_,rfl⟩
include hc H in
theorem sort_ok (hlo:lo<=r) {A:List E} (hn:A.length<=100000) {σ:Qa} (h:σ[r]?=some (.mix (cels A))) :
  ∃ B e,CC lo 111 [.rsl r 2 0 A.length,.fn cf []] σ=some (.tuple [],W (σ++e) r B)/\B.Perm A/\Sd (ltc cmp) 0 A.length B:=by
 have hr:=QT h
 obtain ⟨b,e1,h2,h3⟩:=Jj (n:=A.length) (by omega)
 obtain ⟨B,σ1,g1,g2,g3,e,rfl⟩:=pq_all hc H hlo hn (A.length+1) 0 A.length A b true true σ (by omega) (Nat.zero_le _) (Nat.le_refl _) rfl (fun h0=>by omega) hr
 rw [W_eq h] at g1
 refine ⟨B,e,F111_call ?_,g2.perm,g3⟩
 have c1:CC lo 121 [V r A.length,N 0,N A.length,I b,.fn cf []] σ=some (.tuple [],W (σ++e) r B):=F121_call (by rw [F121_eq]; exact g1)
 have hl:len PP 134 (.rsl r 2 0 A.length) σ=some (N A.length):=by simp [len,uL]
 simp only [V,N,I,U] at c1 e1
 rw [F111_eq]
 simp (disch:=omega) only [V,N,I,hl,gG,Ji,Qi,Qq,List.append_nil,e1]
 have c2:CC lo 121 [.rsl r 2 0 A.length,.p (.int .i64 0),.p (.int .i64 (A.length:Nat)),.p (.int .i64 (b:Nat)),.fn cf []] σ=some (.tuple [],W (σ++e) r B):=c1
 rw [c2]
 simp only [gG]
end
end Go.D.StS
end
/- Equations of functions 112, 110, 84, 83, 51, 12, 50, 81, 107, 115, 125, printed by gen.py. -/
section
set_option linter.unusedVariables false
set_option maxRecDepth 10000
namespace Go.D
open Go.Proofs
noncomputable section
variable (G:Qe) (lo:Nat) {σ:Qa} {r:DV×Qa}
open _root_.Go.D.Code (fstC sndC)
open _root_.Go.D.Ann (left right)
def c112_0:Code:=Qs Tryz.f112
def a112_0:Ann:=(pol 112).ann
def F112 (a b:DV) (σ:Qa):RS:=
 Qm G PP (pol 112) CC lo c112_0 a112_0 (a::b::zn 15 []) σ (finR PP Tryz.f112.results.toList)
theorem F112_eq (G:Qe) (lo:Nat) (a b:DV) (σ:Qa):F112 G lo a b σ =
 (boxV a).bind fun z2=>
 (boxV b).bind fun z3=>
 (fieldAddr PP 102 (DV.ptr (List.length σ) 0) 0).bind fun m=>
 (load PP 3 m ((σ++[Row.mix z2])++[Row.mix z3])).bind fun O=>
 (fieldAddr PP 102 (DV.ptr (List.length (σ++[Row.mix z2])) 0) 0).bind fun H=>
 (load PP 3 H ((σ++[Row.mix z2])++[Row.mix z3])).bind fun k=>
 (Qg CC (DV.fn 99 []) [O,k] ((σ++[Row.mix z2])++[Row.mix z3])).bind fun g=>
 (fieldAddr PP 102 (DV.ptr (List.length σ) 0) 1).bind fun i=>
 (load PP 3 i ((σ++[Row.mix z2])++[Row.mix z3])).bind fun j=>
 (fieldAddr PP 102 (DV.ptr (List.length (σ++[Row.mix z2])) 0) 1).bind fun l=>
 (load PP 3 l ((σ++[Row.mix z2])++[Row.mix z3])).bind fun q=>
 (Qg CC (DV.fn 99 []) [j,q] ((σ++[Row.mix z2])++[Row.mix z3])).bind fun w=>
 (buildSlice PP none 22 2 [(0,g),(1,w)] ((σ++[Row.mix z2])++[Row.mix z3])).bind fun r15_1=>
 (Qg CC (DV.fn 98 []) [r15_1.1] r15_1.2).bind fun ah=>
 some (ah,r15_1.2):=by kernel_rfl
theorem F112_call {lo:Nat} {a b:DV} (h:F112 Qb lo a b σ=some r):CC lo 112 [a,b] σ=some r:=
 callL_run Tryz.func112 (by decide +kernel) rfl (by decide +kernel) h
def c110_0:Code:=Qs Tryz.f110
def a110_0:Ann:=(pol 110).ann
def F110 (a b c:DV) (σ:Qa):RS:=
 Qm G PP (pol 110) CC lo c110_0 a110_0 (a::b::c::zn 19 []) σ (finR PP Tryz.f110.results.toList)
theorem F110_eq (G:Qe) (lo:Nat) (a b c:DV) (σ:Qa):F110 G lo a b c σ =
 (boxV a).bind fun z3=>
 (fieldAddr PP 95 b 1).bind fun H=>
 (load PP 93 H (σ++[Row.mix z3])).bind fun k=>
 (load PP 102 (DV.ptr (List.length σ) 0) (σ++[Row.mix z3])).bind fun g=>
 (lookup PP 93 k g true (σ++[Row.mix z3])).bind fun i=>
 (Qj i 0).bind fun j=>
 (Qj i 1).bind fun l=>
 (unOp .not l).bind fun w=>
 Qh w
 (
 (fieldAddr PP 95 b 1).bind fun F=>
 (load PP 93 F (σ++[Row.mix z3])).bind fun ah=>
 (load PP 102 (DV.ptr (List.length σ) 0) (σ++[Row.mix z3])).bind fun R=>
 (mapUpdate PP lo 93 ah R I0 (σ++[Row.mix z3])).bind fun σ1=>
 (load PP 134 c σ1).bind fun af=>
 (load PP 102 (DV.ptr (List.length σ) 0) σ1).bind fun b8=>
 (buildSlice PP none 134 1 [(0,b8)] σ1).bind fun r20_2=>
 (append PP lo true 134 134 af r20_2.1 r20_2.2).bind fun r21_3=>
 (store PP lo 134 c r21_3.1 r21_3.2).bind fun σ4=>
 some ((DV.tuple []),σ4)
 )
 (
 some ((DV.tuple []),(σ++[Row.mix z3]))
 ):=by kernel_rfl
theorem F110_call {lo:Nat} {a b c:DV} (h:F110 Qb lo a b c σ=some r):CC lo 110 [a,b,c] σ=some r:=
 callL_run Tryz.func110 (by decide +kernel) rfl (by decide +kernel) h
def c84_0:Code:=Qs Tryz.f84
def a84_0:Ann:=(pol 84).ann
def a84_7:Ann:=right (left (right (right a84_0)))
def a84_8:Ann:=left a84_7
def c84_9:Code:=fstC (fstC (sndC (fstC (sndC (sndC c84_0)))))
def a84_16:Ann:=left (right (right (left a84_8)))
def c84_24:Code:=sndC (sndC (sndC c84_9))
def a84_24:Ann:=right (right (right (left a84_8)))
def c84_25:Code:=sndC (sndC (sndC c84_0))
def a84_25:Ann:=right (right (right a84_0))
def f84_L0 (b m g i j:DV) (σ:Qa):RS:=
 Qm G PP (pol 84) CC lo (.loop c84_9) a84_8 (Z::b::Z::Z::Z::m::Z::Z::Z::g::i::j::zn 14 []) σ
 (Qf 0 a84_7 (seqC G PP (pol 84) CC lo c84_25 a84_25 (finR PP Tryz.f84.results.toList)))
def f84_J0 (b m O H g i j l q w F ah R af b8 Q u o z:DV) (σ:Qa):RS:=
 (Qf 1 a84_16 (seqC G PP (pol 84) CC lo c84_24 a84_24 (QN G PP (pol 84) CC lo c84_9 a84_8 (Qf 0 a84_7 (seqC G PP (pol 84) CC lo c84_25 a84_25 (finR PP Tryz.f84.results.toList)))))) .normal ([Z,b,Z,Z,Z,m,O,H,Z,g,i,j,l,q,w,F,ah,R,af,b8,Q,u,o,z,Z,Z]) σ
def F84 (a b:DV) (σ:Qa):RS:=
 Qm G PP (pol 84) CC lo c84_0 a84_0 (a::b::zn 24 []) σ (finR PP Tryz.f84.results.toList)
theorem f84_L0_eq (G:Qe) (hG:Qo G) (lo:Nat) (b m g i j:DV) (σ:Qa):f84_L0 G lo b m g i j σ =
 (binOp PP .lss 3 j i).bind fun l=>
 Qh l
 (
 (indexAddr PP 23 g j).bind fun w=>
 (load PP 69 w σ).bind fun F=>
 (Qx PP 69).bind fun z7=>
 (store PP lo 69 (DV.ptr (List.length σ) 0) F (σ++[Row.mix z7])).bind fun σ1=>
 (fieldAddr PP 69 (DV.ptr (List.length σ) 0) 0).bind fun ah=>
 (load PP 3 ah σ1).bind fun R=>
 (binOp PP .eql 3 R b).bind fun b8=>
 Qh b8
 (
 (buildSlice PP none 22 1 [(0,j)] σ1).bind fun r22_2=>
 (append PP lo false 22 22 m r22_2.1 r22_2.2).bind fun r23_3=>
 f84_J0 G lo b r23_3.1 j (DV.ptr (List.length σ) 0) g i j l j w F ah R b b8 m j r22_2.1 r23_3.1 r23_3.2
 )
 (
 f84_J0 G lo b m j (DV.ptr (List.length σ) 0) g i j l j w F ah R b b8 Z Z Z Z σ1
 )
 )
 (
 some (m,σ)
 ):=(Ql G hG).trans (by kernel_rfl)
theorem f84_J0_eq (G:Qe) (lo:Nat) (b m O H g i j l q w F ah R af b8 Q u o z:DV) (σ:Qa):f84_J0 G lo b m O H g i j l q w F ah R af b8 Q u o z σ =
 (binOp PP .add 3 j I1).bind fun K=>
 f84_L0 G lo b m g i K σ:=by kernel_rfl
theorem F84_eq (G:Qe) (lo:Nat) (a b:DV) (σ:Qa):F84 G lo a b σ =
 (boxV a).bind fun z2=>
 (fieldAddr PP 25 (DV.ptr (List.length σ) 0) 2).bind fun k=>
 (load PP 23 k (σ++[Row.mix z2])).bind fun g=>
 (len PP 23 g (σ++[Row.mix z2])).bind fun i=>
 f84_L0 G lo b (DV.p PV.nilsl) g i I0 (σ++[Row.mix z2]):=by kernel_rfl
theorem F84_call {lo:Nat} {a b:DV} (h:F84 Qb lo a b σ=some r):CC lo 84 [a,b] σ=some r:=
 callL_run Tryz.func84 (by decide +kernel) rfl (by decide +kernel) h
def c81_0:Code:=Qs Tryz.f81
def a81_0:Ann:=(pol 81).ann
def F81 (a:DV) (σ:Qa):RS:=
 Qm G PP (pol 81) CC lo c81_0 a81_0 (a::zn 24 []) σ (finR PP Tryz.f81.results.toList)
theorem F81_eq (G:Qe) (lo:Nat) (a:DV) (σ:Qa):F81 G lo a σ =
 (boxV a).bind fun z1=>
 (fieldAddr PP 25 (DV.ptr (List.length σ) 0) 2).bind fun f=>
 (load PP 23 f (σ++[Row.mix z1])).bind fun m=>
 (Qg CC (DV.fn 100 []) [m,(DV.fn 107 [])] (σ++[Row.mix z1])).bind fun O=>
 (load PP 25 (DV.ptr (List.length σ) 0) (σ++[Row.mix z1])).bind fun H=>
 (Qg CC (DV.fn 96 []) [H] (σ++[Row.mix z1])).bind fun k=>
 (Qg CC (DV.fn 73 []) [k,(DV.p (PV.int IntKind.i64 (5)))] (σ++[Row.mix z1])).bind fun g=>
 (fieldAddr PP 25 (DV.ptr (List.length σ) 0) 0).bind fun i=>
 (load PP 3 i (σ++[Row.mix z1])).bind fun j=>
 (binOp PP .leq 3 j (DV.p (PV.int IntKind.i64 (30)))).bind fun l=>
 Gp G l true (fieldAddr PP 25 (DV.ptr (List.length σ) 0) 2) (σ++[Row.mix z1]) fun w σ1=>
 Gp G l true (load PP 23 w σ1) σ1 fun F σ2=>
 Gp G l true (len PP 23 F σ2) σ2 fun ah σ3=>
 Gp G l true (binOp PP .leq 3 ah (DV.p (PV.int IntKind.i64 (120)))) σ3 fun R σ4=>
 (Qt l R (DV.p (PV.bool false))).bind fun af=>
 (Qg CC (DV.fn 73 []) [af,(DV.p (PV.int IntKind.i64 (2)))] σ4).bind fun b8=>
 (unOp .not O).bind fun u=>
 (Qg CC (DV.fn 73 []) [u,(DV.p (PV.int IntKind.i64 (3)))] σ4).bind fun o=>
 (buildSlice PP none 143 3 [(0,g),(1,b8),(2,o)] σ4).bind fun r23_5=>
 (Qg CC (DV.fn 53 []) [r23_5.1] r23_5.2).bind fun K=>
 some (K,r23_5.2):=by kernel_rfl
theorem F81_call {lo:Nat} {a:DV} (h:F81 Qb lo a σ=some r):CC lo 81 [a] σ=some r:=
 callL_run Tryz.func81 (by decide +kernel) rfl (by decide +kernel) h
def c107_0:Code:=Qs Tryz.f107
def a107_0:Ann:=(pol 107).ann
def F107 (a:DV) (σ:Qa):RS:=
 Qm G PP (pol 107) CC lo c107_0 a107_0 (a::zn 5 []) σ (finR PP Tryz.f107.results.toList)
theorem F107_eq (G:Qe) (lo:Nat) (a:DV) (σ:Qa):F107 G lo a σ =
 (boxV a).bind fun z1=>
 (fieldAddr PP 69 (DV.ptr (List.length σ) 0) 2).bind fun d=>
 (load PP 3 d (σ++[Row.mix z1])).bind fun f=>
 (binOp PP .eql 3 f (DV.p (PV.int IntKind.i64 (11)))).bind fun m=>
 some (m,(σ++[Row.mix z1])):=by kernel_rfl
theorem F107_call {lo:Nat} {a:DV} (h:F107 Qb lo a σ=some r):CC lo 107 [a] σ=some r:=
 callL_run Tryz.func107 (by decide +kernel) rfl (by decide +kernel) h
def c115_0:Code:=Qs Tryz.f115
def a115_0:Ann:=(pol 115).ann
def F115 (a:DV) (σ:Qa):RS:=
 Qm G PP (pol 115) CC lo c115_0 a115_0 (a::zn 6 []) σ (finR PP Tryz.f115.results.toList)
theorem F115_eq (G:Qe) (lo:Nat) (a:DV) (σ:Qa):F115 G lo a σ =
 (Qd CC lo (DV.fn 124 []) [a,(DV.fn 119 [])] σ).bind fun r4_1=>
 (Qd CC lo (DV.fn 125 []) [a] r4_1.2).bind fun r6_2=>
 some (r6_2.1,r6_2.2):=by kernel_rfl
theorem F115_call {lo:Nat} {a:DV} (h:F115 Qb lo a σ=some r):CC lo 115 [a] σ=some r:=
 callL_run Tryz.func115 (by decide +kernel) rfl (by decide +kernel) h
def c125_0:Code:=Qs Tryz.f125
def a125_0:Ann:=(pol 125).ann
def a125_13:Ann:=right (left (right (right a125_0)))
def a125_14:Ann:=left a125_13
def c125_15:Code:=fstC (fstC (sndC (fstC (sndC (sndC c125_0)))))
def a125_22:Ann:=left (right (left a125_14))
def a125_31:Ann:=right (left (right (left (right (left a125_22)))))
def a125_32:Ann:=left a125_31
def c125_33:Code:=fstC (fstC (sndC (fstC (sndC (fstC (sndC (fstC (fstC (sndC c125_15)))))))))
def a125_40:Ann:=left (right (left a125_32))
def c125_48:Code:=sndC (sndC c125_33)
def a125_48:Ann:=right (right (left a125_32))
def c125_49:Code:=sndC (sndC (fstC (sndC (fstC (fstC (sndC c125_15))))))
def a125_49:Ann:=right (right (left (right (left a125_22))))
def c125_55:Code:=sndC (sndC c125_15)
def a125_55:Ann:=right (right (left a125_14))
def c125_56:Code:=sndC (sndC (sndC c125_0))
def a125_56:Ann:=right (right (right a125_0))
def f125_L0 (a d:DV) (σ:Qa):RS:=
 Qm G PP (pol 125) CC lo (.loop c125_15) a125_14 (a::Z::Z::d::zn 57 []) σ
 (Qf 0 a125_13 (seqC G PP (pol 125) CC lo c125_56 a125_56 (finR PP Tryz.f125.results.toList)))
def f125_L1 (a d f m:DV) (σ:Qa):RS:=
 Qm G PP (pol 125) CC lo (.loop c125_33) a125_32 (a::Z::Z::d::f::m::zn 55 []) σ
 (Qf 2 a125_31 (seqC G PP (pol 125) CC lo c125_49 a125_49 (Qf 1 a125_22 (seqC G PP (pol 125) CC lo c125_55 a125_55 (QN G PP (pol 125) CC lo c125_15 a125_14 (Qf 0 a125_13 (seqC G PP (pol 125) CC lo c125_56 a125_56 (finR PP Tryz.f125.results.toList))))))))
def f125_J0 (a d f m S aw B I ai aj aq Y L C x y X P N t J E ak ar az T W:DV) (σ:Qa):RS:=
 (Qf 3 a125_40 (seqC G PP (pol 125) CC lo c125_48 a125_48 (QN G PP (pol 125) CC lo c125_33 a125_32 (Qf 2 a125_31 (seqC G PP (pol 125) CC lo c125_49 a125_49 (Qf 1 a125_22 (seqC G PP (pol 125) CC lo c125_55 a125_55 (QN G PP (pol 125) CC lo c125_15 a125_14 (Qf 0 a125_13 (seqC G PP (pol 125) CC lo c125_56 a125_56 (finR PP Tryz.f125.results.toList))))))))))) .normal (a::Z::Z::d::f::m::zn 23 (S::aw::B::I::Z::Z::ai::aj::aq::Y::L::C::x::y::X::P::N::t::J::E::ak::ar::az::T::W::zn 7 [])) σ
def F125 (a:DV) (σ:Qa):RS:=
 Qm G PP (pol 125) CC lo c125_0 a125_0 (a::zn 60 []) σ (finR PP Tryz.f125.results.toList)
theorem f125_L0_eq (G:Qe) (hG:Qo G) (lo:Nat) (a d:DV) (σ:Qa):f125_L0 G lo a d σ =
 (len PP 23 a σ).bind fun l=>
 (binOp PP .lss 3 d l).bind fun q=>
 Qh q
 (
 (indexAddr PP 23 a d).bind fun af=>
 (load PP 69 af σ).bind fun b8=>
 (binOp PP .sub 3 d I1).bind fun o=>
 (indexAddr PP 23 a o).bind fun z=>
 (load PP 69 z σ).bind fun K=>
 (binOp PP .eql 69 b8 K).bind fun A=>
 Qh A
 (
 (Zy PP 23 a (some d) none none).bind fun au=>
 f125_L1 G lo a d au I1 σ
 )
 (
 (binOp PP .add 3 d I1).bind fun F=>
 f125_L0 G lo a F σ
 )
 )
 (
 some (a,σ)
 ):=(Ql G hG).trans (by kernel_rfl)
theorem f125_L1_eq (G:Qe) (hG:Qo G) (lo:Nat) (a d f m:DV) (σ:Qa):f125_L1 G lo a d f m σ =
 (len PP 23 f σ).bind fun B=>
 (binOp PP .lss 3 m B).bind fun I=>
 Qh I
 (
 (indexAddr PP 23 f m).bind fun aq=>
 (load PP 69 aq σ).bind fun Y=>
 (binOp PP .sub 3 m I1).bind fun x=>
 (indexAddr PP 23 f x).bind fun y=>
 (load PP 69 y σ).bind fun X=>
 (binOp PP .neq 69 Y X).bind fun P=>
 Qh P
 (
 (indexAddr PP 23 f m).bind fun ak=>
 (load PP 69 ak σ).bind fun ar=>
 (indexAddr PP 23 a d).bind fun az=>
 (store PP lo 69 az ar σ).bind fun σ1=>
 (binOp PP .add 3 d I1).bind fun W=>
 f125_J0 G lo a W f m m f B I f m aq Y f m x y X P a d f m ak ar az d W σ1
 )
 (
 f125_J0 G lo a d f m m f B I f m aq Y f m x y X P Z Z Z Z Z Z Z Z Z σ
 )
 )
 (
 (Zy PP 23 a (some d) none none).bind fun be=>
 (VJ PP lo 23 be σ).bind fun σ2=>
 (Zy PP 23 a none (some d) none).bind fun bc=>
 some (bc,σ2)
 ):=(Ql G hG).trans (by kernel_rfl)
theorem f125_J0_eq (G:Qe) (lo:Nat) (a d f m S aw B I ai aj aq Y L C x y X P N t J E ak ar az T W:DV) (σ:Qa):f125_J0 G lo a d f m S aw B I ai aj aq Y L C x y X P N t J E ak ar az T W σ =
 (binOp PP .add 3 m I1).bind fun V=>
 f125_L1 G lo a d f V σ:=by kernel_rfl
theorem F125_eq (G:Qe) (lo:Nat) (a:DV) (σ:Qa):F125 G lo a σ =
 (len PP 23 a σ).bind fun H=>
 (binOp PP .lss 3 H (DV.p (PV.int IntKind.i64 (2)))).bind fun k=>
 Qh k
 (
 some (a,σ)
 )
 (
 f125_L0 G lo a I1 σ
 ):=by kernel_rfl
theorem F125_call {lo:Nat} {a:DV} (h:F125 Qb lo a σ=some r):CC lo 125 [a] σ=some r:=
 callL_run Tryz.func125 (by decide +kernel) rfl (by decide +kernel) h
end
end Go.D
end
/- Chapter 22: lists of states that grow in a row, their order; turned from the texts of chapter 24. -/
section
set_option linter.unusedVariables false
set_option linter.unusedSimpArgs false
namespace Go.D.StS
open Go.D.Srt
def cmpB (x y:E):Int:=orL [cmpI x.1 y.1,cmpI x.2 y.2]
theorem box_val (e:E):boxV (val e)=some (cel e):=rfl
theorem fa102_0 (x:DV):fieldAddr PP 102 x 0=QL x 0:=Eq.trans (by kernel_rfl) rfl
theorem Uh (x:DV):fieldAddr PP 102 x 1=QL x 1:=Eq.trans (by kernel_rfl) rfl
theorem bs22_2w (x y:Int) (σ:Qa):buildSlice PP none 22 2 [(0,.p (pI x)),(1,.p (pI y))] σ=some (.p (.sl true 2 (Qr [x,y])),σ):=Eq.trans (by kernel_rfl) rfl
theorem sl2_view (x y:Int):view (.p (.sl true 2 (Qr [x,y])))=.p (eSl (some [x,y])):=rfl
theorem S112 (x y:E) (σ:Qa):Qv CC 112 [val x,val y] σ=some (.p (.int .i64 (cmpB x y))):=by
 refine Qk rfl rfl (F112_call (r:=(.p (pI (cmpB x y)),[.mix (cel x),.mix (cel y)])) ?_) rfl
 rw [F112_eq]
 have g0:([Row.mix (cel x),Row.mix (cel y)]:Qa)[0]?=some (.mix (cel x)):=rfl
 have g1:([Row.mix (cel x),Row.mix (cel y)]:Qa)[1]?=some (.mix (cel y)):=rfl
 simp only [box_val,Qz,List.length_nil,List.nil_append,List.length_cons,List.cons_append,fa102_0,Uh,QJ,QF,Nat.zero_add,
  Qc (off:=0) g0 rfl,Qc (off:=1) g0 rfl,Qc (off:=0) g1 rfl,Qc (off:=1) g1 rfl,Qi,List.append_nil,S99,bs22_2w]
 rw [Wc (args':=[.p (eSl (some [cmpI x.1 y.1,cmpI x.2 y.2]))]) (by simp [sl2_view]) (by simp [Zf]),S98 (by simp)]
 rfl
def ltB (x y:E):Prop:=x.1<y.1\/(x.1=y.1/\x.2<y.2)
theorem cmpB_lt (x y:E):cmpB x y<0↔ltB x y:=by
 unfold cmpB ltB cmpI
 simp only [orL]
 split <;> split <;> (try split) <;> omega
theorem ltc_iff (x y:E):ltc cmpB x y=true↔ltB x y:=by
 unfold ltc
 rw [decide_eq_true_iff]
 exact cmpB_lt x y
theorem Vj (x y:E):ltc cmpB x y=false↔¬ ltB x y:=by
 rw [<-ltc_iff]
 cases ltc cmpB x y <;> simp
theorem ordB:Ord (ltc cmpB) where
 asym x y h:=by
  rw [ltc_iff] at h
  rw [Vj]
  unfold ltB at *
  omega
 trans x y z h1 h2:=by
  rw [Vj] at *
  unfold ltB at *
  omega
theorem ltB_anti {x y:E} (h1:¬ ltB x y) (h2:¬ ltB y x):x=y:=by
 obtain ⟨a,b⟩:=x
 obtain ⟨c,d⟩:=y
 unfold ltB at *
 simp only at *
 have e1:a=c:=by omega
 have e2:b=d:=by omega
 rw [e1,e2]
def Asc (l:List E):Prop:=l.Pairwise ltB
def leB (x y:E):Prop:=¬ ltB y x
theorem sd_pair {B:List E} (h:Sd (ltc cmpB) 0 B.length B):B.Pairwise leB:=by
 rw [List.pairwise_iff_getElem]
 intro i j hi hj hij
 have h1:=h i j (Nat.zero_le _) hij hj
 rw [Vj] at h1
 have e:∀ k (hk:k<B.length),ge B k=B[k]:=fun k hk=>by unfold ge; rw [List.getD_eq_getElem?_getD,List.getElem?_eq_getElem hk]; rfl
 rw [e i hi,e j hj] at h1
 exact h1
theorem sorted_eq {A B:List E} (hp:B.Perm A) (h1:B.Pairwise leB) (h2:A.Pairwise leB):B=A:=
 List.Perm.eq_of_pairwise (fun a b _ _ h3 h4=>ltB_anti h4 h3) h1 h2 hp
theorem asc_le {A:List E} (h:Asc A):A.Pairwise leB:=List.Pairwise.imp (fun {a b} h=>by unfold leB; unfold ltB at *; omega) h
def RowL (σ:Qa) (B:Nat) (A:List E) (x:DV):Prop:=(A=[]/\x=.p .nilsl)\/∃ r,x=.rsl r 2 0 A.length/\σ[r]?=some (.mix (cels A))/\B<=r/\A≠[]
theorem u134:PP.underlying 134=some (.slice 102):=uL
theorem bytesB:bytes? PP 102=some 16:=Eq.trans (by kernel_rfl) rfl
theorem Jd:Qx PP 102=some [.p (pI 0),.p (pI 0)]:=Eq.trans (by kernel_rfl) rfl
theorem srcB:ZQ PP 134=true:=Eq.trans (by kernel_rfl) rfl
def celP (e:E):List PV:=[pI e.1,pI e.2]
def Vx (A:List E):List PV:=A.flatMap celP
theorem celP_map (e:E):(celP e).map DV.p=cel e:=rfl
theorem celsP_map (A:List E):(Vx A).map DV.p=cels A:=by
 induction A with
 | nil=>rfl
 | cons a A ih=>
  have e1:Vx (a::A)=celP a++Vx A:=rfl
  have e2:cels (a::A)=cel a++cels A:=rfl
  rw [e1,e2,List.map_append,ih,celP_map]
theorem celsP_len (A:List E):(Vx A).length=A.length*2:=by
 have h:=congrArg List.length (celsP_map A)
 rwa [List.length_map,WP] at h
theorem RowL.push {σ:Qa} {B lo:Nat} {A:List E} {x:DV} (h:RowL σ B A x) (hA:A.length<=1000000) (hlo:lo<=B) (hB:B<=σ.length) (m:Bool) (hm:A=[]->m=true) (e:E) :
  ∃ σ',append PP lo m 134 134 x (.p (.sl true 1 (celP e))) σ=some (.rsl σ.length 2 0 (A.length+1),σ')/\RowL σ' B (A++[e]) (.rsl σ.length 2 0 (A.length+1))/\
   (∀ j row,(∀ r,x=.rsl r 2 0 A.length->j≠r)->σ[j]?=some row->σ'[j]?=some row)/\σ'.length=σ.length+1:=by
 have hsrc:ZE σ 2 (.p (.sl true 1 (celP e)))=some (1,(celP e).map DV.p):=by simp [ZE,celP]
 have hz0:¬ ([DV.p (pI 0),DV.p (pI 0)].length≠2\/2=0):=by decide
 have ec:cels (A++[e])=cels A++cel e:=by rw [cels_app]; rfl
 have hne:A++[e]≠[]:=by simp
 have hl:(A++[e]).length=A.length+1:=by simp
 rcases h with ⟨rfl,rfl⟩ | ⟨r,rfl,h1,h2,h3⟩
 ·have hm:=hm rfl
  subst hm
  refine ⟨σ++[.mix (cel e)],?_,.inr ⟨σ.length,by rw [hl],QB,hB,hne⟩,fun j row _ g=>QM g,by simp⟩
  simp only [append,srcB,u134,sE,bytesB,Jd,hz0,hsrc,Um]
  rfl
 ·have hr:=QT h1
  have hcl:=WP A
  refine ⟨σ.set r .dead++[.mix (cels A++cel e)],?_,.inr ⟨σ.length,by rw [hl],?_,hB,hne⟩,fun j row hj g=>QM (Qu g (hj r rfl)),by simp⟩
  ·simp only [append,srcB,u134,sE,bytesB,Jd,hz0,hsrc,appRow]
   have e1:(A.length+1)*16<=140737488355328:=by omega
   have e2:A.length+1<=140737488355328:=by omega
   have e3:lo<=r:=by omega
   have e4:¬ (0+(A.length+1)*2<=(cels A).length):=by omega
   have e5:0+A.length*2=(cels A).length:=by omega
   have e6:(cel e).all DV.one=true:=rfl
   simp [e1,e2,e3,h1,celP_map,e6,hcl,<-e5]
   omega
  ·rw [ec]
   have:(σ.set r .dead).length=σ.length:=by simp
   rw [<-this]; exact QB
theorem bs134 (e:E) (σ:Qa):buildSlice PP none 134 1 [(0,val e)] σ=some (.p (.sl true 1 (celP e)),σ):=Eq.trans (by kernel_rfl) rfl
theorem celsP_app (A B:List E):Vx (A++B)=Vx A++Vx B:=by simp [Vx]
theorem Out.pushE {σ:Qa} {lo:Nat} {A:List E} {x:DV} (ho:Out σ lo 2 A.length (Vx A) x) (hn:A.length<=10000000) (hlo:lo<=σ.length) (e:E) :
  ∃ x' σ',append PP lo false 134 134 x (.p (.sl true 1 (celP e))) σ=some (x',σ')/\Out σ' lo 2 (A++[e]).length (Vx (A++[e])) x'/\Others σ σ' x/\Fresh σ x x'/\lo<=σ'.length:=by
 obtain ⟨x',σ',h1,h2,h3,h4⟩:=Out.pushF (vs:=celP e) srcB u134 sE bytesB Jd rfl (by decide) (by decide) (by decide) rfl ho hn hlo
 refine ⟨x',σ',h1,?_,h3,h4,?_⟩
 ·rw [celsP_app,List.length_append]
  exact h2
 ·rcases h2.2 with ⟨h,_⟩ | ⟨_,r,ver,_,h,h5⟩
  ·omega
  ·have:=QT h; omega
theorem Zi {A:List E} {k:Nat} (hk:k<A.length):ge A k=A[k]:=by unfold ge; rw [List.getD_eq_getElem?_getD,List.getElem?_eq_getElem hk]; rfl
theorem asc_lt {A:List E} (h:Asc A) {i j:Nat} (hij:i<j) (hj:j<A.length):ltB (ge A i) (ge A j):=by
 rw [Zi (by omega),Zi hj]
 exact List.pairwise_iff_getElem.1 h i j (by omega) hj hij
def Zk (A:List E):List E->List E
 | []=>A
 | y::l=>Zk (if A.contains y=true then A else A++[y]) l
theorem RowL.snoc {σ:Qa} {B:Nat} {A:List E} {x:DV} (h:RowL σ B A x) (row:Row):RowL (σ++[row]) B A x:=by
 rcases h with h | ⟨r,e1,e2,e3,e4⟩
 ·exact .inl h
 ·exact .inr ⟨r,e1,QM e2,e3,e4⟩
theorem lenR {σ σ':Qa} {B:Nat} {A:List E} {x:DV} (h:RowL σ B A x):len PP 134 x σ'=some (N A.length):=by
 rcases h with ⟨rfl,rfl⟩ | ⟨r,rfl,_,_,_⟩ <;> simp [len,uL]
theorem celsP_get {A:List E} {i:Nat} (h:i<A.length):(((Vx A).drop (i*2)).take 2).map DV.p=cel (ge A i):=by
 rw [List.map_take,List.map_drop,celsP_map,cels_get h]
theorem ldB {A:List E} {i:Nat} (h:i<A.length) (σ:Qa):load PP 102 (.pptr (Vx A) (i*2)) σ=some (val (ge A i)):=by
 have e:i*2+2<=(Vx A).length:=by rw [celsP_len]; omega
 rw [loadE]
 simp only [Wl,e,if_true,celsP_get h,Option.map_some]
 rfl
theorem stNew {σ:Qa} (e:E) {lo:Nat} (hlo:lo<=σ.length):store PP lo 102 (.ptr σ.length 0) (val e) (σ++[.mix [.p (pI 0),.p (pI 0)]])=some (σ++[.mix (cel e)]):=by
 have e1:(val e).cells=cel e:=rfl
 have e2:(σ++[Row.mix [.p (pI 0),.p (pI 0)]])[σ.length]?=some (.mix [.p (pI 0),.p (pI 0)]):=QB
 have e3:QS [DV.p (pI 0),.p (pI 0)] 0 (cel e)=cel e:=rfl
 simp only [store,sE,e1,ZH,if_true,Zo,hlo,e2,cel_one,e3]
 rw [List.set_append_right _ _ (Nat.le_refl _),Nat.sub_self]
 rfl
theorem Jt {σ:Qa} {s:Nat} {e:E} (h:σ[s]?=some (.mix (cel e))):load PP 102 (.ptr s 0) σ=some (val e):=by
 rw [loadE,QI h rfl (Nat.le_refl 2)]; rfl
theorem s134:size? PP 134=some 1:=Eq.trans (by kernel_rfl) rfl
theorem st134 {σ:Qa} {q:Nat} {y v:DV} (h:σ[q]?=some (.mix [y])) (hv:v.one=true) (hc:v.cells=[v]):store PP 0 134 (.ptr q 0) v σ=some (σ.set q (.mix [v])):=by
 have e3:QS [y] 0 [v]=[v]:=rfl
 simp [store,s134,hc,Zo,h,hv,e3]
end Go.D.StS
end
/- Equations of functions 85, printed by gen.py. -/
section
set_option linter.unusedVariables false
set_option maxRecDepth 10000
namespace Go.D
open Go.Proofs
noncomputable section
variable (G:Qe) (lo:Nat) {σ:Qa} {r:DV×Qa}
open _root_.Go.D.Code (fstC sndC)
open _root_.Go.D.Ann (left right)
def c85_0:Code:=Qs Tryz.f85
def a85_0:Ann:=(pol 85).ann
def a85_11:Ann:=right (left (right (right (right (right a85_0)))))
def a85_12:Ann:=left a85_11
def c85_13:Code:=fstC (fstC (sndC (fstC (sndC (sndC (sndC (sndC c85_0)))))))
def c85_25:Code:=sndC (sndC (sndC (sndC (sndC c85_0))))
def a85_25:Ann:=right (right (right (right (right a85_0))))
def a85_28:Ann:=right (left a85_25)
def a85_29:Ann:=left a85_28
def c85_30:Code:=fstC (fstC (sndC (fstC c85_25)))
def a85_37:Ann:=left (right (left a85_29))
def a85_40:Ann:=right (left a85_37)
def a85_41:Ann:=left a85_40
def c85_42:Code:=fstC (fstC (sndC (fstC (fstC (sndC c85_30)))))
def c85_54:Code:=sndC (sndC c85_30)
def a85_54:Ann:=right (right (left a85_29))
def c85_55:Code:=sndC c85_25
def a85_55:Ann:=right a85_25
def a85_60:Ann:=right (left (right a85_55))
def a85_61:Ann:=left a85_60
def c85_62:Code:=fstC (fstC (sndC (fstC (sndC c85_55))))
def c85_76:Code:=sndC (sndC c85_55)
def a85_76:Ann:=right (right a85_55)
def a85_81:Ann:=right (left (right a85_76))
def a85_82:Ann:=left a85_81
def c85_83:Code:=fstC (fstC (sndC (fstC (sndC c85_76))))
def c85_95:Code:=sndC (sndC c85_76)
def a85_95:Ann:=right (right a85_76)
def a85_102:Ann:=right (left (right (right a85_95)))
def a85_103:Ann:=left a85_102
def c85_104:Code:=fstC (fstC (sndC (fstC (sndC (sndC c85_95)))))
def a85_111:Ann:=left (right (right (left a85_103)))
def a85_116:Ann:=right (right (left a85_111))
def a85_117:Ann:=left a85_116
def c85_118:Code:=fstC (fstC (sndC (sndC (fstC (fstC (sndC (sndC c85_104)))))))
def c85_130:Code:=sndC (sndC (sndC c85_104))
def a85_130:Ann:=right (right (right (left a85_103)))
def c85_131:Code:=sndC (sndC (sndC c85_95))
def a85_131:Ann:=right (right (right a85_95))
def f85_L0 (b c f m O K A ac:DV) (σ:Qa):RS:=
 Qm G PP (pol 85) CC lo (.loop c85_13) a85_12 (Z::b::c::Z::f::m::O::zn 17 (K::A::ac::zn 158 [])) σ
 (Qf 0 a85_11 (seqC G PP (pol 85) CC lo c85_25 a85_25 (finR PP Tryz.f85.results.toList)))
def f85_L1 (b c f m O g:DV) (σ:Qa):RS:=
 Qm G PP (pol 85) CC lo (.loop c85_30) a85_29 (Z::b::c::Z::f::m::O::Z::Z::g::zn 175 []) σ
 (Qf 2 a85_28 (seqC G PP (pol 85) CC lo c85_55 a85_55 (finR PP Tryz.f85.results.toList)))
def f85_L2 (b c f m O g t J E:DV) (σ:Qa):RS:=
 Qm G PP (pol 85) CC lo (.loop c85_42) a85_41 (Z::b::c::Z::f::m::O::Z::Z::g::zn 36 (t::J::E::zn 136 [])) σ
 (Qf 4 a85_40 (Qf 3 a85_37 (seqC G PP (pol 85) CC lo c85_54 a85_54 (QN G PP (pol 85) CC lo c85_30 a85_29 (Qf 2 a85_28 (seqC G PP (pol 85) CC lo c85_55 a85_55 (finR PP Tryz.f85.results.toList)))))))
def f85_L3 (b c f m bc bb bh:DV) (σ:Qa):RS:=
 Qm G PP (pol 85) CC lo (.loop c85_62) a85_61 (Z::b::c::Z::f::m::zn 53 (bc::bb::bh::zn 123 [])) σ
 (Qf 6 a85_60 (seqC G PP (pol 85) CC lo c85_76 a85_76 (finR PP Tryz.f85.results.toList)))
def f85_L4 (b c f m cj c8 cd:DV) (σ:Qa):RS:=
 Qm G PP (pol 85) CC lo (.loop c85_83) a85_82 (Z::b::c::Z::f::m::zn 89 (cj::c8::cd::zn 87 [])) σ
 (Qf 8 a85_81 (seqC G PP (pol 85) CC lo c85_95 a85_95 (finR PP Tryz.f85.results.toList)))
def f85_L5 (b c f m db de dw:DV) (σ:Qa):RS:=
 Qm G PP (pol 85) CC lo (.loop c85_104) a85_103 (Z::b::c::Z::f::m::zn 122 (db::de::dw::zn 54 [])) σ
 (Qf 10 a85_102 (seqC G PP (pol 85) CC lo c85_131 a85_131 (finR PP Tryz.f85.results.toList)))
def f85_L6 (b c f m ah db de dw dy da dr:DV) (σ:Qa):RS:=
 Qm G PP (pol 85) CC lo (.loop c85_118) a85_117 (Z::b::c::Z::f::m::zn 10 (ah::zn 111 (db::de::dw::zn 7 (dy::da::dr::zn 44 [])))) σ
 (Qf 12 a85_116 (Qf 11 a85_111 (seqC G PP (pol 85) CC lo c85_130 a85_130 (QN G PP (pol 85) CC lo c85_104 a85_103 (Qf 10 a85_102 (seqC G PP (pol 85) CC lo c85_131 a85_131 (finR PP Tryz.f85.results.toList)))))))
def F85 (a:DV) (σ:Qa):RS:=
 Qm G PP (pol 85) CC lo c85_0 a85_0 (a::zn 184 []) σ (finR PP Tryz.f85.results.toList)
theorem f85_L0_eq (G:Qe) (hG:Qo G) (lo:Nat) (b c f m O K A ac:DV) (σ:Qa):f85_L0 G lo b c f m O K A ac σ =
 (binOp PP .lss 3 ac A).bind fun U=>
 Qh U
 (
 (indexAddr PP 134 K ac).bind fun au=>
 (load PP 102 au σ).bind fun S=>
 (Qx PP 102).bind fun z8=>
 (store PP lo 102 (DV.ptr (List.length σ) 0) S (σ++[Row.mix z8])).bind fun σ2=>
 (load PP 102 (DV.ptr (List.length σ) 0) σ2).bind fun B=>
 (Qd CC lo O [B] σ2).bind fun r32_3=>
 (binOp PP .add 3 ac I1).bind fun ae=>
 f85_L0 G lo b c f m O K A ae r32_3.2
 )
 (
 f85_L1 G lo b c f m O I0 σ
 ):=(Ql G hG).trans (by kernel_rfl)
theorem f85_L1_eq (G:Qe) (hG:Qo G) (lo:Nat) (b c f m O g:DV) (σ:Qa):f85_L1 G lo b c f m O g σ =
 (load PP 134 m σ).bind fun ai=>
 (len PP 134 ai σ).bind fun aj=>
 (binOp PP .lss 3 g aj).bind fun aq=>
 Qh aq
 (
 (fieldAddr PP 137 b 1).bind fun C=>
 (load PP 135 C σ).bind fun x=>
 (load PP 134 m σ).bind fun y=>
 (indexAddr PP 134 y g).bind fun P=>
 (load PP 102 P σ).bind fun N=>
 (Qg CC x [N] σ).bind fun t=>
 (len PP 138 t σ).bind fun J=>
 f85_L2 G lo b c f m O g t J I0 σ
 )
 (
 (load PP 134 m σ).bind fun bp=>
 (Qd CC lo (DV.fn 111 []) [bp,(DV.fn 112 [])] σ).bind fun r58_6=>
 (load PP 134 m r58_6.2).bind fun bc=>
 (len PP 134 bc r58_6.2).bind fun bb=>
 f85_L3 G lo b c f m bc bb I0 r58_6.2
 ):=(Ql G hG).trans (by kernel_rfl)
theorem f85_L2_eq (G:Qe) (hG:Qo G) (lo:Nat) (b c f m O g t J E:DV) (σ:Qa):f85_L2 G lo b c f m O g t J E σ =
 (binOp PP .lss 3 E J).bind fun ak=>
 Qh ak
 (
 (indexAddr PP 138 t E).bind fun ar=>
 (load PP 141 ar σ).bind fun az=>
 (Qx PP 141).bind fun z11=>
 (store PP lo 141 (DV.ptr (List.length σ) 0) az (σ++[Row.mix z11])).bind fun σ4=>
 (fieldAddr PP 141 (DV.ptr (List.length σ) 0) 0).bind fun W=>
 (load PP 102 W σ4).bind fun aa=>
 (Qd CC lo O [aa] σ4).bind fun r55_5=>
 (binOp PP .add 3 E I1).bind fun be=>
 f85_L2 G lo b c f m O g t J be r55_5.2
 )
 (
 (binOp PP .add 3 g I1).bind fun L=>
 f85_L1 G lo b c f m O L σ
 ):=(Ql G hG).trans (by kernel_rfl)
theorem f85_L3_eq (G:Qe) (hG:Qo G) (lo:Nat) (b c f m bc bb bh:DV) (σ:Qa):f85_L3 G lo b c f m bc bb bh σ =
 (binOp PP .lss 3 bh bb).bind fun bm=>
 Qh bm
 (
 (indexAddr PP 134 bc bh).bind fun bj=>
 (load PP 102 bj σ).bind fun bu=>
 (Qx PP 102).bind fun z13=>
 (store PP lo 102 (DV.ptr (List.length σ) 0) bu (σ++[Row.mix z13])).bind fun σ7=>
 (fieldAddr PP 95 f 1).bind fun bg=>
 (load PP 93 bg σ7).bind fun bf=>
 (load PP 102 (DV.ptr (List.length σ) 0) σ7).bind fun cm=>
 (mapUpdate PP lo 93 bf cm bh σ7).bind fun σ8=>
 (fieldAddr PP 95 f 0).bind fun br=>
 (fieldAddr PP 33 br 1).bind fun ba=>
 (load PP 22 ba σ8).bind fun cz=>
 (fieldAddr PP 102 (DV.ptr (List.length σ) 0) 0).bind fun cc=>
 (load PP 3 cc σ8).bind fun M=>
 (buildSlice PP none 22 1 [(0,M)] σ8).bind fun r75_9=>
 (append PP lo false 22 22 cz r75_9.1 r75_9.2).bind fun r76_10=>
 (fieldAddr PP 95 f 0).bind fun bq=>
 (fieldAddr PP 33 bq 2).bind fun bz=>
 (load PP 22 bz r76_10.2).bind fun bv=>
 (fieldAddr PP 102 (DV.ptr (List.length σ) 0) 1).bind fun c7=>
 (load PP 3 c7 r76_10.2).bind fun cw=>
 (buildSlice PP none 22 1 [(0,cw)] r76_10.2).bind fun r82_11=>
 (append PP lo false 22 22 bv r82_11.1 r82_11.2).bind fun r83_12=>
 (fieldAddr PP 95 f 0).bind fun bk=>
 (fieldAddr PP 33 bk 1).bind fun bt=>
 (store PP lo 22 bt r76_10.1 r83_12.2).bind fun σ13=>
 (fieldAddr PP 95 f 0).bind fun bn=>
 (fieldAddr PP 33 bn 2).bind fun bw=>
 (store PP lo 22 bw r83_12.1 σ13).bind fun σ14=>
 bif (((List.all [σ8,σ8,σ8,σ8,σ8,σ8,r75_9.2,r76_10.2,r76_10.2,r76_10.2,r76_10.2,r76_10.2,r76_10.2,r82_11.2,r83_12.2,r83_12.2,r83_12.2,σ13,σ13,σ13,σ14] fun s=>sameInt (load PP 3 c7 r76_10.2) (load PP 3 c7 s))&&true)&&((List.all [σ8,σ8,σ8,σ8,σ8,σ8,r75_9.2,r76_10.2,r76_10.2,r76_10.2,r76_10.2,r76_10.2,r76_10.2,r82_11.2] fun s=>Jn (load PP 22 bz r76_10.2) (load PP 22 bz s))&&true)) then
 (binOp PP .add 3 bh I1).bind fun cn=>
 f85_L3 G lo b c f m bc bb cn σ14
 else none
 )
 (
 (load PP 134 m σ).bind fun ch=>
 (len PP 134 ch σ).bind fun co=>
 (fieldAddr PP 95 f 0).bind fun ct=>
 (fieldAddr PP 33 ct 0).bind fun ci=>
 (fieldAddr PP 25 ci 0).bind fun ce=>
 (store PP lo 3 ce co σ).bind fun σ15=>
 (fieldAddr PP 137 b 0).bind fun cb=>
 (load PP 134 cb σ15).bind fun cj=>
 (len PP 134 cj σ15).bind fun c8=>
 f85_L4 G lo b c f m cj c8 I0 σ15
 ):=(Ql G hG).trans (by kernel_rfl)
theorem f85_L4_eq (G:Qe) (hG:Qo G) (lo:Nat) (b c f m cj c8 cd:DV) (σ:Qa):f85_L4 G lo b c f m cj c8 cd σ =
 (binOp PP .lss 3 cd c8).bind fun dh=>
 Qh dh
 (
 (indexAddr PP 134 cj cd).bind fun df=>
 (load PP 102 df σ).bind fun bl=>
 (Qx PP 102).bind fun z15=>
 (store PP lo 102 (DV.ptr (List.length σ) 0) bl (σ++[Row.mix z15])).bind fun σ16=>
 (fieldAddr PP 95 f 0).bind fun dl=>
 (fieldAddr PP 33 dl 0).bind fun ei=>
 (fieldAddr PP 25 ei 1).bind fun dt=>
 (load PP 22 dt σ16).bind fun dz=>
 (fieldAddr PP 95 f 1).bind fun dm=>
 (load PP 93 dm σ16).bind fun ej=>
 (load PP 102 (DV.ptr (List.length σ) 0) σ16).bind fun dk=>
 (lookup PP 93 ej dk false σ16).bind fun dj=>
 (buildSlice PP none 22 1 [(0,dj)] σ16).bind fun r109_17=>
 (append PP lo true 22 22 dz r109_17.1 r109_17.2).bind fun r110_18=>
 (fieldAddr PP 95 f 0).bind fun dx=>
 (fieldAddr PP 33 dx 0).bind fun am=>
 (fieldAddr PP 25 am 1).bind fun c9=>
 (store PP lo 22 c9 r110_18.1 r110_18.2).bind fun σ19=>
 (binOp PP .add 3 cd I1).bind fun ek=>
 f85_L4 G lo b c f m cj c8 ek σ19
 )
 (
 (fieldAddr PP 95 f 0).bind fun du=>
 (fieldAddr PP 33 du 0).bind fun di=>
 (fieldAddr PP 25 di 1).bind fun cp=>
 (load PP 22 cp σ).bind fun eu=>
 (Qd CC lo (DV.fn 113 []) [eu] σ).bind fun r119_20=>
 (fieldAddr PP 95 f 0).bind fun cg=>
 (fieldAddr PP 33 cg 0).bind fun ew=>
 (fieldAddr PP 25 ew 1).bind fun cq=>
 (load PP 22 cq r119_20.2).bind fun dq=>
 (Qd CC lo (DV.fn 114 []) [dq] r119_20.2).bind fun r124_21=>
 (fieldAddr PP 95 f 0).bind fun cu=>
 (fieldAddr PP 33 cu 0).bind fun ee=>
 (fieldAddr PP 25 ee 1).bind fun f5=>
 (store PP lo 22 f5 r124_21.1 r124_21.2).bind fun σ22=>
 (load PP 134 m σ22).bind fun db=>
 (len PP 134 db σ22).bind fun de=>
 f85_L5 G lo b c f m db de I0 σ22
 ):=(Ql G hG).trans (by kernel_rfl)
theorem f85_L5_eq (G:Qe) (hG:Qo G) (lo:Nat) (b c f m db de dw:DV) (σ:Qa):f85_L5 G lo b c f m db de dw σ =
 (binOp PP .lss 3 dw de).bind fun f6=>
 Qh f6
 (
 (indexAddr PP 134 db dw).bind fun eg=>
 (load PP 102 eg σ).bind fun eh=>
 (Qx PP 102).bind fun z17=>
 (store PP lo 102 (DV.ptr (List.length σ) 0) eh (σ++[Row.mix z17])).bind fun σ23=>
 (fieldAddr PP 137 b 1).bind fun f0=>
 (load PP 135 f0 σ23).bind fun dg=>
 (load PP 102 (DV.ptr (List.length σ) 0) σ23).bind fun en=>
 (Qg CC dg [en] σ23).bind fun dy=>
 (len PP 138 dy σ23).bind fun da=>
 f85_L6 G lo b c f m dw db de dw dy da I0 σ23
 )
 (
 (fieldAddr PP 95 f 0).bind fun fu=>
 (fieldAddr PP 33 fu 0).bind fun fv=>
 (fieldAddr PP 25 fv 2).bind fun g9=>
 (load PP 23 g9 σ).bind fun fw=>
 (Qd CC lo (DV.fn 115 []) [fw] σ).bind fun r168_28=>
 (fieldAddr PP 95 f 0).bind fun fh=>
 (fieldAddr PP 33 fh 0).bind fun f8=>
 (fieldAddr PP 25 f8 2).bind fun fx=>
 (store PP lo 23 fx r168_28.1 r168_28.2).bind fun σ29=>
 (load PP 134 m σ29).bind fun gh=>
 (len PP 134 gh σ29).bind fun ga=>
 (binOp PP .gtr 3 ga (DV.p (PV.int IntKind.i64 (400)))).bind fun fe=>
 Gp G fe false (fieldAddr PP 95 f 0) σ29 fun gb σ30=>
 Gp G fe false (fieldAddr PP 33 gb 0) σ30 fun gk σ31=>
 Gp G fe false (fieldAddr PP 25 gk 2) σ31 fun gn σ32=>
 Gp G fe false (load PP 23 gn σ32) σ32 fun go σ33=>
 Gp G fe false (len PP 23 go σ33) σ33 fun gp σ34=>
 Gp G fe false (binOp PP .gtr 3 gp (DV.p (PV.int IntKind.i64 (2000)))) σ34 fun gt σ35=>
 (Qt fe (DV.p (PV.bool true)) gt).bind fun gu=>
 Qh gu
 (
 (build PP 95 []).bind fun gw=>
 (store PP lo 95 c gw σ35).bind fun σ36=>
 (Vy PP 95 c σ36).bind fun v0=>
 some ((DV.tuple [v0,(DV.p (PV.int IntKind.i64 (2)))]),σ36)
 )
 (
 (load PP 95 f σ35).bind fun gx=>
 (store PP lo 95 c gx σ35).bind fun σ37=>
 (Vy PP 95 c σ37).bind fun v0=>
 some ((DV.tuple [v0,I0]),σ37)
 )
 ):=(Ql G hG).trans (by kernel_rfl)
theorem f85_L6_eq (G:Qe) (hG:Qo G) (lo:Nat) (b c f m ah db de dw dy da dr:DV) (σ:Qa):f85_L6 G lo b c f m ah db de dw dy da dr σ =
 (binOp PP .lss 3 dr da).bind fun fi=>
 Qh fi
 (
 (indexAddr PP 138 dy dr).bind fun dp=>
 (load PP 141 dp σ).bind fun fj=>
 (Qx PP 141).bind fun z19=>
 (store PP lo 141 (DV.ptr (List.length σ) 0) fj (σ++[Row.mix z19])).bind fun σ24=>
 (fieldAddr PP 95 f 0).bind fun f7=>
 (fieldAddr PP 33 f7 0).bind fun fk=>
 (fieldAddr PP 25 fk 2).bind fun fl=>
 (load PP 23 fl σ24).bind fun gz=>
 (fieldAddr PP 95 f 1).bind fun gc=>
 (load PP 93 gc σ24).bind fun gd=>
 (fieldAddr PP 141 (DV.ptr (List.length σ) 0) 0).bind fun fm=>
 (load PP 102 fm σ24).bind fun fo=>
 (lookup PP 93 gd fo false σ24).bind fun fp=>
 (fieldAddr PP 141 (DV.ptr (List.length σ) 0) 1).bind fun fq=>
 (load PP 3 fq σ24).bind fun fa=>
 (build PP 69 [(0,ah),(1,fp),(2,fa)]).bind fun fb=>
 (buildSlice PP none 23 1 [(0,fb)] σ24).bind fun r157_25=>
 (append PP lo true 23 23 gz r157_25.1 r157_25.2).bind fun r158_26=>
 (fieldAddr PP 95 f 0).bind fun gf=>
 (fieldAddr PP 33 gf 0).bind fun fc=>
 (fieldAddr PP 25 fc 2).bind fun fy=>
 (store PP lo 23 fy r158_26.1 r158_26.2).bind fun σ27=>
 (binOp PP .add 3 dr I1).bind fun ft=>
 f85_L6 G lo b c f m ah db de dw dy da ft σ27
 )
 (
 (binOp PP .add 3 dw I1).bind fun gg=>
 f85_L5 G lo b c f m db de gg σ
 ):=(Ql G hG).trans (by kernel_rfl)
theorem F85_eq (G:Qe) (lo:Nat) (a:DV) (σ:Qa):F85 G lo a σ =
 (boxV a).bind fun z1=>
 (Qx PP 95).bind fun z2=>
 (build PP 95 [(1,(DV.map (List.length ((σ++[Row.mix z1])++[Row.mix z2]))))]).bind fun u=>
 (Qx PP 95).bind fun z4=>
 (store PP lo 95 (DV.ptr (List.length (((σ++[Row.mix z1])++[Row.mix z2])++[Row.map []])) 0) u ((((σ++[Row.mix z1])++[Row.mix z2])++[Row.map []])++[Row.mix z4])).bind fun σ1=>
 (Qx PP 134).bind fun z5=>
 (fieldAddr PP 137 (DV.ptr (List.length σ) 0) 0).bind fun z=>
 (load PP 134 z (σ1++[Row.mix z5])).bind fun K=>
 (len PP 134 K (σ1++[Row.mix z5])).bind fun A=>
 f85_L0 G lo (DV.ptr (List.length σ) 0) (DV.ptr (List.length (σ++[Row.mix z1])) 0) (DV.ptr (List.length (((σ++[Row.mix z1])++[Row.mix z2])++[Row.map []])) 0) (DV.ptr (List.length σ1) 0) (DV.fn 110 [(DV.ptr (List.length (((σ++[Row.mix z1])++[Row.mix z2])++[Row.map []])) 0),(DV.ptr (List.length σ1) 0)]) K A I0 (σ1++[Row.mix z5]):=by kernel_rfl
theorem F85_call {lo:Nat} {a:DV} (h:F85 Qb lo a σ=some r):CC lo 85 [a] σ=some r:=
 callL_run Tryz.func85 (by decide +kernel) rfl (by decide +kernel) h
end
end Go.D
end
/- Chapter 22: the map of numbers, and a state that is added to those that are found. -/
section
set_option linter.unusedVariables false
set_option linter.unusedSimpArgs false
namespace Go.D.StS
open Go.D.Srt
theorem uM93:PP.underlying 93=some (.map 102 3):=Eq.trans (by kernel_rfl) rfl
theorem zv3:zeroVal PP 3=some (.p (pI 0)):=Eq.trans (by kernel_rfl) rfl
theorem keyS' (a b:Int):UQ PP 40 102 (val (a,b))=true:=Eq.trans (by kernel_rfl) rfl
theorem keyS (e:E):UQ PP 40 102 (val e)=true:=keyS' e.1 e.2
theorem eqS' (a b a' b':Int):eqAt PP 40 102 (val (a,b)) (val (a',b'))=(match some (a==a') with | some true=>(match some (b==b') with | some true=>some true | r=>r) | r=>r):=by kernel_rfl
theorem eqS (x y:E):eqAt PP 40 102 (val x) (val y)=some (decide (y=x)):=by
 obtain ⟨a,b⟩:=x
 obtain ⟨a',b'⟩:=y
 rw [eqS']
 by_cases h1:a'=a <;> by_cases h2:b'=b
 ·subst h1; subst h2; simp
 ·have:¬ b=b':=fun e=>h2 e.symm
  simp [h1,h2,this]
 ·have:¬ a=a':=fun e=>h1 e.symm
  simp [h1,this]
 ·have:¬ a=a':=fun e=>h1 e.symm
  simp [h1,this]
def entZ (l:List (E×Int)):List (DV×DV):=l.map fun p=>(val p.1,.p (pI p.2))
def WW:List (E×Int)->E->Option Int
 | [],_=>none
 | p::l,e=>if p.1=e then some p.2 else WW l e
def setZ:List (E×Int)->E->Int->List (E×Int)
 | [],e,v=>[(e,v)]
 | p::l,e,v=>if p.1=e then (e,v)::l else p::setZ l e v
theorem findKeyZ (e:E):∀ l,findKey PP 102 (val e) (entZ l)=some ((WW l e).map fun v=>.p (pI v))
 | []=>rfl
 | p::l=>by
  have h:entZ (p::l)=(val p.1,.p (pI p.2))::entZ l:=rfl
  rw [h,findKey,eqS,WW]
  by_cases hp:p.1=e
  ·rw [decide_eq_true hp,if_pos hp]
   rfl
  ·rw [decide_eq_false hp,if_neg hp]
   exact findKeyZ e l
theorem sameS (e:E):sameKey (val e) (val e)=true:=by
 simp [sameKey,val,cel,Vi,sameScalar]
theorem updKeyZ (e:E) (v:Int):∀ l,UL PP 102 (val e) (.p (pI v)) (entZ l)=some (entZ (setZ l e v))
 | []=>rfl
 | p::l=>by
  have h:entZ (p::l)=(val p.1,.p (pI p.2))::entZ l:=rfl
  rw [h,UL,eqS,setZ]
  by_cases hp:p.1=e
  ·rw [decide_eq_true hp,if_pos hp]
   subst hp
   simp only [sameS,if_true]
   rfl
  ·rw [decide_eq_false hp,if_neg hp]
   simp only [updKeyZ e v l,Option.map_some]
   rfl
theorem lookZ {σ:Qa} {m:Nat} {l:List (E×Int)} (h:σ[m]?=some (.map (entZ l))) (e:E):lookup PP 93 (.map m) (val e) true σ=some (.tuple [.p (pI ((WW l e).getD 0)),.p (.bool (WW l e).isSome)]):=by
 simp only [lookup,uM93,keyS,if_true,h,findKeyZ,zv3]
 cases WW l e <;> rfl
theorem lookZ0 {σ:Qa} {m:Nat} {l:List (E×Int)} (h:σ[m]?=some (.map (entZ l))) (e:E):lookup PP 93 (.map m) (val e) false σ=some (.p (pI ((WW l e).getD 0))):=by
 simp only [lookup,uM93,keyS,if_true,h,findKeyZ,zv3]
 cases WW l e <;> rfl
theorem updZ {σ:Qa} {m:Nat} {l:List (E×Int)} (h:σ[m]?=some (.map (entZ l))) (e:E) (v:Int):mapUpdate PP 0 93 (.map m) (val e) (.p (.int .i64 v)) σ=some (σ.set m (.map (entZ (setZ l e v)))):=by
 have h1:((.p (.int .i64 v)):DV).isUndef=false:=rfl
 simp only [mapUpdate,uM93,keyS,h1,Nat.zero_le,and_self,if_true,h,updKeyZ,Option.map_some]
theorem UR (x:DV):fieldAddr PP 95 x 0=QL x 0:=Eq.trans (by kernel_rfl) rfl
theorem UD (x:DV):fieldAddr PP 95 x 1=QL x 5:=Eq.trans (by kernel_rfl) rfl
theorem fa137_0 (x:DV):fieldAddr PP 137 x 0=QL x 0:=Eq.trans (by kernel_rfl) rfl
theorem fa137_1 (x:DV):fieldAddr PP 137 x 1=QL x 1:=Eq.trans (by kernel_rfl) rfl
theorem UB (x:DV) (σ:Qa):load PP 93 x σ=ZX x σ:=Eq.trans (by kernel_rfl) rfl
theorem Vk (x:DV) (σ:Qa):load PP 134 x σ=ZX x σ:=Eq.trans (by kernel_rfl) rfl
theorem load135 (x:DV) (σ:Qa):load PP 135 x σ=ZX x σ:=Eq.trans (by kernel_rfl) rfl
structure GS (σ0:Qa) (ext:List DV) (l:List (E×Int)) (A:List E) (o:List DV) (σ:Qa):Prop where
 low:∀ j,j<σ0.length->σ[j]?=σ0[j]?
 ex:σ[σ0.length]?=some (.mix ext)
 z2:∃ z,σ[σ0.length+1]?=some (.mix z)/\z.length=6
 mp:σ[σ0.length+2]?=some (.map (entZ l))
 ot:σ[σ0.length+3]?=some (.mix (o++[.map (σ0.length+2)]))
 ol:o.length=5
 al:∃ y,σ[σ0.length+4]?=some (.mix [y])/\RowL σ (σ0.length+5) A y
variable {σ0 : Qa} {ext : List DV} {l : List (E × Int)} {A : List E} {o : List DV} {σ : Qa}
theorem GS.len (h:GS σ0 ext l A o σ):σ0.length+5<=σ.length:=by
 obtain ⟨y,h1,_⟩:=h.al
 have:=QT h1; omega
theorem GS.snoc (h:GS σ0 ext l A o σ) (row:Row):GS σ0 ext l A o (σ++[row]):=by
 have hl:=h.len
 obtain ⟨z,z1,z2⟩:=h.z2
 obtain ⟨y,y1,y2⟩:=h.al
 refine ⟨fun j hj=>?_,QM h.ex,⟨z,QM z1,z2⟩,QM h.mp,QM h.ot,h.ol,y,QM y1,y2.snoc row⟩
 rw [List.getElem?_append_left (by omega)]
 exact h.low j hj
theorem GS.omap (h:GS σ0 ext l A o σ):ZX (.ptr (σ0.length+3) 5) σ=some (.map (σ0.length+2)):=by
 refine Qc h.ot ?_
 rw [List.getElem?_append_right (by rw [h.ol]; exact Nat.le_refl _),h.ol]
 rfl
theorem GS.setM (h:GS σ0 ext l A o σ) (l':List (E×Int)):GS σ0 ext l' A o (σ.set (σ0.length+2) (.map (entZ l'))):=by
 have hl:=h.len
 obtain ⟨z,z1,z2⟩:=h.z2
 obtain ⟨y,y1,y2⟩:=h.al
 refine ⟨fun j hj=>?_,Qu h.ex (by omega),⟨z,Qu z1 (by omega),z2⟩,by rw [List.getElem?_set_self (by omega)],Qu h.ot (by omega),h.ol,y,Qu y1 (by omega),?_⟩
 ·rw [List.getElem?_set_ne (by omega)]
  exact h.low j hj
 ·rcases y2 with e | ⟨r,e1,e2,e3,e4⟩
  ·exact .inl e
  ·exact .inr ⟨r,e1,Qu e2 (by omega),e3,e4⟩
def addA (A:List E) (e:E):List E:=if A.contains e=true then A else A++[e]
def zer (A:List E):List (E×Int):=A.map fun e=>(e,0)
theorem find_zer (A:List E) (e:E):(WW (zer A) e).isSome=A.contains e:=by
 induction A with
 | nil=>rfl
 | cons a A ih=>
  have h:zer (a::A)=(a,0)::zer A:=rfl
  rw [h,WW,List.contains_cons]
  by_cases e1:a=e
  ·subst e1; simp
  ·have e2:(e==a)=false:=by simpa using fun h=>e1 h.symm
   simp only [e1,if_false,ih,e2,Bool.false_or]
theorem set_zer (A:List E) (e:E) (h:A.contains e=false):setZ (zer A) e 0=zer (A++[e]):=by
 induction A with
 | nil=>rfl
 | cons a A ih=>
  have h1:zer (a::A)=(a,0)::zer A:=rfl
  rw [List.contains_cons,Bool.or_eq_false_iff] at h
  have e1:¬ a=e:=fun e1=>by simp [e1] at h
  rw [h1,setZ,if_neg e1,ih h.2]
  rfl
theorem add_ok (h:GS σ0 ext (zer A) A o σ) (hA:A.length<=100000) (e:E) :
  ∃ σ',CC 0 110 [val e,.ptr (σ0.length+3) 0,.ptr (σ0.length+4) 0] σ=some (.tuple [],σ')/\GS σ0 ext (zer (addA A e)) (addA A e) o σ':=by
 have h1:=h.snoc (.mix (cel e))
 have hB:(σ++[Row.mix (cel e)])[σ.length]?=some (.mix (cel e)):=QB
 have hlen:=h.len
 unfold addA
 cases hc:A.contains e with
 | true=>
  refine ⟨σ++[.mix (cel e)],F110_call ?_,by simpa using h1⟩
  rw [F110_eq]
  simp only [box_val,Qz,UD,gP,UB,h1.omap,Jt hB,lookZ h1.mp,find_zer,hc,ex0,ex1,ZD,Bool.not_true,Qw]
 | false=>
  have h2:=h1.setM (zer (A++[e]))
  rw [<-set_zer A e hc] at h2
  have hB2:((σ++[Row.mix (cel e)]).set (σ0.length+2) (.map (entZ (setZ (zer A) e 0))))[σ.length]?=some (.mix (cel e)):=Qu hB (by omega)
  have hup:=updZ h1.mp e 0
  generalize hρ:(σ++[Row.mix (cel e)]).set (σ0.length+2) (.map (entZ (setZ (zer A) e 0)))=ρ at *
  obtain ⟨y,y1,y2⟩:=h2.al
  obtain ⟨σ',p1,p2,p3,p4⟩:=RowL.push (lo:=0) y2 (by omega) (Nat.zero_le _) h2.len true (fun _=>rfl) e
  have hne:∀ j,j<σ0.length+5->∀ r,y=.rsl r 2 0 A.length->j≠r:=by
   intro j hj r hr
   rcases y2 with ⟨_,e1⟩ | ⟨r2,e1,_,e2,_⟩
   ·rw [e1] at hr; exact absurd hr (by simp)
   ·rw [e1] at hr; injection hr with hr; omega
  have y1':=p3 _ _ (hne _ (by omega)) y1
  have hst:=st134 (v:=.rsl ρ.length 2 0 (A.length+1)) y1' rfl rfl
  have hrl:=h2.len
  have hl':σ0.length+5<=σ'.length:=by omega
  refine ⟨σ'.set (σ0.length+4) (.mix [.rsl ρ.length 2 0 (A.length+1)]),F110_call ?_,?_⟩
  ·rw [F110_eq]
   simp only [box_val,Qz,UD,gP,UB,h1.omap,Jt hB,lookZ h1.mp,find_zer,hc,ex0,ex1,ZD,Bool.not_false,QA,hup,Vk,Qc (off:=0) y1 rfl,Jt hB2,bs134,p1,hst]
  ·obtain ⟨z,z1,z2⟩:=h2.z2
   simp only [Bool.false_eq_true,if_false]
   rw [set_zer A e hc] at h2
   refine ⟨fun j hj=>?_,Qu (p3 _ _ (hne _ (by omega)) h2.ex) (by omega),⟨z,Qu (p3 _ _ (hne _ (by omega)) z1) (by omega),z2⟩,Qu (p3 _ _ (hne _ (by omega)) h2.mp) (by omega),Qu (p3 _ _ (hne _ (by omega)) h2.ot) (by omega),h2.ol,_,by rw [List.getElem?_set_self (by omega)],?_⟩
   ·rw [List.getElem?_set_ne (by omega)]
    have hj2:=h2.low j hj
    cases hx:σ0[j]? with
    | none=>have:=List.getElem?_eq_none_iff.1 hx; omega
    | some row=>
     rw [hx] at hj2
     exact p3 _ _ (hne _ (by omega)) hj2
   ·rcases p2 with ⟨e1,_⟩ | ⟨r,e1,e2,e3,e4⟩
    ·simp at e1
    ·refine .inr ⟨r,?_,Qu e2 (by omega),e3,e4⟩
     rw [e1]
end Go.D.StS
end
/- Chapter 22: graph, first part: first states, the search, sorting of the states. -/
section
set_option linter.unusedVariables false
set_option linter.unusedSimpArgs false
namespace Go.D.StS
open Go.D.Srt
abbrev OE:=Option (List Edg)
def toE (e:Edg):E:=(e.f,e.t)
theorem u138:PP.underlying 138=some (.slice 141):=Eq.trans (by kernel_rfl) rfl
theorem s141:size? PP 141=some 3:=Eq.trans (by kernel_rfl) rfl
theorem Uo:Qx PP 141=some [.p (pI 0),.p (pI 0),.p (pI 0)]:=Eq.trans (by kernel_rfl) rfl
theorem load141 (x:DV) (σ:Qa):load PP 141 x σ=(Wl σ 3 x).map .agg:=Eq.trans (by kernel_rfl) rfl
theorem fa141_0 (x:DV):fieldAddr PP 141 x 0=QL x 0:=Eq.trans (by kernel_rfl) rfl
theorem fa141_1 (x:DV):fieldAddr PP 141 x 1=QL x 2:=Eq.trans (by kernel_rfl) rfl
theorem len138 (q:OE) (σ:Qa):len PP 138 (.p (eEs q)) σ=some (N (L q).length):=by cases q <;> simp [len,u138,eEs]
theorem idx138 {q:OE} {i:Nat} (h:i<(L q).length):indexAddr PP 138 (.p (eEs q)) (.p (.int .i64 (i:Nat)))=some (.pptr (Zd (L q)) (i*3)):=by
 cases q with
 | none=>exact absurd h (by simp [L])
 | some l=>
  have h2:(0:Int)<=(i:Int)/\(i:Int)<(l.length:Nat):=by
   simp only [L,Option.getD_some] at h; omega
  simp [indexAddr,u138,s141,eEs,h2,L]
def gE (l:List Edg) (k:Nat):Edg:=l.getD k default
theorem Vw {l:List Edg} {k:Nat} (h:k<l.length):gE l k=l[k]:=by unfold gE; rw [List.getD_eq_getElem?_getD,List.getElem?_eq_getElem h]; rfl
theorem ld141 {l:List Edg} {i:Nat} (h:i<l.length) (σ:Qa):(Wl σ 3 (.pptr (Zd l) (i*3))).map DV.agg=some (.agg (edgD (gE l i))):=by
 rw [load69_edgs h,Vw h]; rfl
theorem stN141 {σ:Qa} (e:Edg) {lo:Nat} (hlo:lo<=σ.length):store PP lo 141 (.ptr σ.length 0) (.agg (edgD e)) (σ++[.mix [.p (pI 0),.p (pI 0),.p (pI 0)]])=some (σ++[.mix (edgD e)]):=by
 have e1:(DV.agg (edgD e)).cells=edgD e:=rfl
 have e2:(σ++[Row.mix [.p (pI 0),.p (pI 0),.p (pI 0)]])[σ.length]?=some (.mix [.p (pI 0),.p (pI 0),.p (pI 0)]):=QB
 have e3:QS [DV.p (pI 0),.p (pI 0),.p (pI 0)] 0 (edgD e)=edgD e:=rfl
 have e4:(edgD e).length=3:=rfl
 have e5:(edgD e).all DV.one=true:=rfl
 simp only [store,s141,e1,e4,if_true,Zo,hlo,e2,e5,e3]
 rw [List.set_append_right _ _ (Nat.le_refl _),Nat.sub_self]
 rfl
theorem ldTo {σ:Qa} {s:Nat} {e:Edg} (h:σ[s]?=some (.mix (edgD e))):load PP 102 (.ptr s 0) σ=some (val (toE e)):=by
 rw [loadE,QI (vs:=cel (toE e)) h rfl (by simp [edgD])]; rfl
theorem ldAct {σ:Qa} {s:Nat} {e:Edg} (h:σ[s]?=some (.mix (edgD e))):ZX (.ptr s 2) σ=some (.p (.int .i64 e.a)):=Qc h rfl
def x6 (C:Nat):DV:=.fn 110 [.ptr (C+3) 0,.ptr (C+4) 0]
theorem addAll_ge (A l:List E):A.length<=(Zk A l).length:=by
 induction l generalizing A with
 | nil=>exact Nat.le_refl _
 | cons y l ih=>
  unfold Zk
  split
  ·exact ih A
  ·exact Nat.le_trans (by simp) (ih _)
theorem addA_ge (A:List E) (y:E):A.length<=(addA A y).length:=by unfold addA; split <;> simp
section
variable {σ0 : Qa} {ext o : List DV}
theorem gr_L0 {l:List E} {x24:DV} (hx:∀ k,k<l.length->indexAddr PP 134 x24 (.p (.int .i64 (k:Nat)))=some (.pptr (Vx l) (k*2))) (hl:l.length<=10000) :
  ∀ (d k:Nat) (A:List E) (σ:Qa),l.length-k=d->k<=l.length->GS σ0 ext (zer A) A o σ->(Zk A (l.drop k)).length<=100000->
  ∃ σ',f85_L0 Qb 0 (.ptr σ0.length 0) (.ptr (σ0.length+1) 0) (.ptr (σ0.length+3) 0) (.ptr (σ0.length+4) 0) (x6 σ0.length) x24 (N l.length) (N k) σ=f85_L1 Qb 0 (.ptr σ0.length 0) (.ptr (σ0.length+1) 0) (.ptr (σ0.length+3) 0) (.ptr (σ0.length+4) 0) (x6 σ0.length) (N 0) σ'/\
   GS σ0 ext (zer (Zk A (l.drop k))) (Zk A (l.drop k)) o σ'
 | 0,k,A,σ,hd,hk,h,hb=>by
  refine ⟨σ,?_,by rw [List.drop_of_length_le (by omega)]; exact h⟩
  rw [f85_L0_eq Qb rfl]
  simp (disch:=omega) only [N,Qn,ltF,gG]
  rfl
 | d+1,k,A,σ,hd,hk,h,hb=>by
  have hkl:k<l.length:=by omega
  have e0:l.drop k=ge l k::l.drop (k+1):=by
   rw [Zi hkl]; exact List.drop_eq_getElem_cons hkl
  rw [e0] at hb ⊢
  have e1:Zk A (ge l k::l.drop (k+1))=Zk (addA A (ge l k)) (l.drop (k+1)):=rfl
  rw [e1] at hb ⊢
  have h1:=h.snoc (.mix (cel (ge l k)))
  have hB:(σ++[Row.mix (cel (ge l k))])[σ.length]?=some (.mix (cel (ge l k))):=QB
  have hsn:=stNew (lo:=0) (σ:=σ) (ge l k) (Nat.zero_le _)
  have hAl:A.length<=100000:=Nat.le_trans (Nat.le_trans (addA_ge A _) (addAll_ge _ _)) hb
  obtain ⟨σ2,p1,p2⟩:=add_ok h1 hAl (ge l k)
  obtain ⟨σ',r1,r2⟩:=gr_L0 hx hl d (k+1) _ σ2 (by omega) (by omega) p2 hb
  refine ⟨σ',?_,r2⟩
  have hix:=hx k hkl
  have hld:=ldB hkl σ
  rw [<-r1,f85_L0_eq Qb rfl]
  simp (disch:=omega) only [N,x6,Qn,ltT,gG,hix,hld,Jd,hsn,Jt hB,Qq,List.singleton_append,p1,add1]
theorem gr_L2 {i:Nat} (hi:i<=100000) {q:OE} (hl:(L q).length<=10000):∀ (d k:Nat) (A:List E) (σ:Qa),(L q).length-k=d->k<=(L q).length->GS σ0 ext (zer A) A o σ->(Zk A (((L q).drop k).map toE)).length<=100000->
  ∃ σ',f85_L2 Qb 0 (.ptr σ0.length 0) (.ptr (σ0.length+1) 0) (.ptr (σ0.length+3) 0) (.ptr (σ0.length+4) 0) (x6 σ0.length) (N i) (.p (eEs q)) (N (L q).length) (N k) σ=f85_L1 Qb 0 (.ptr σ0.length 0) (.ptr (σ0.length+1) 0) (.ptr (σ0.length+3) 0) (.ptr (σ0.length+4) 0) (x6 σ0.length) (N (i+1)) σ'/\
   GS σ0 ext (zer (Zk A (((L q).drop k).map toE))) (Zk A (((L q).drop k).map toE)) o σ'
 | 0,k,A,σ,hd,hk,h,hb=>by
  refine ⟨σ,?_,by rw [List.drop_of_length_le (by omega)]; exact h⟩
  rw [f85_L2_eq Qb rfl]
  simp (disch:=omega) only [N,Qn,ltF,gG,add1]
 | d+1,k,A,σ,hd,hk,h,hb=>by
  have hkl:k<(L q).length:=by omega
  have e0:(L q).drop k=gE (L q) k::(L q).drop (k+1):=by
   rw [Vw hkl]; exact List.drop_eq_getElem_cons hkl
  rw [e0] at hb ⊢
  have e1:Zk A ((gE (L q) k::(L q).drop (k+1)).map toE)=Zk (addA A (toE (gE (L q) k))) (((L q).drop (k+1)).map toE):=rfl
  rw [e1] at hb ⊢
  have h1:=h.snoc (.mix (edgD (gE (L q) k)))
  have hB:(σ++[Row.mix (edgD (gE (L q) k))])[σ.length]?=some (.mix (edgD (gE (L q) k))):=QB
  have hsn:=stN141 (lo:=0) (σ:=σ) (gE (L q) k) (Nat.zero_le _)
  have hAl:A.length<=100000:=Nat.le_trans (Nat.le_trans (addA_ge A _) (addAll_ge _ _)) hb
  obtain ⟨σ2,p1,p2⟩:=add_ok h1 hAl (toE (gE (L q) k))
  obtain ⟨σ',r1,r2⟩:=gr_L2 hi hl d (k+1) _ σ2 (by omega) (by omega) p2 hb
  refine ⟨σ',?_,r2⟩
  rw [<-r1,f85_L2_eq Qb rfl]
  simp (disch:=omega) only [N,x6,Qn,ltT,gG,idx138,load141,ld141,Uo,hsn,fa141_0,gP,ldTo hB,Qq,List.singleton_append,p1,add1]
noncomputable def tail1 (C:Nat) (σ:Qa):Option (DV×Qa):=
 (load PP 134 (.ptr (C+4) 0) σ).bind fun x57=>
 (Qd CC 0 (DV.fn 111 []) [x57,(DV.fn 112 [])] σ).bind fun r58_6=>
 (load PP 134 (.ptr (C+4) 0) r58_6.2).bind fun x59=>
 (len PP 134 x59 r58_6.2).bind fun x60=>
 f85_L3 Qb 0 (.ptr C 0) (.ptr (C+1) 0) (.ptr (C+3) 0) (.ptr (C+4) 0) x59 x60 (DV.p (PV.int IntKind.i64 (0))) r58_6.2
def groM (M:E->OE):Nat->Nat->List E->List E
 | 0,_,A=>A
 | k+1,i,A=>if i<A.length then groM M k (i+1) (Zk A ((L (M (ge A i))).map toE)) else A
theorem gr_L1 {mv:FuncId} {caps:List DV} (hext:∃ y0,ext=[y0,.fn mv caps]) (M:E->OE) (Pn:E->Prop) (K:Nat)
  (hM:∀ x,Pn x->∀ σ:Qa,(∀ j,j<σ0.length->σ[j]?=σ0[j]?)->Qv CC mv (val x::caps) σ=some (.p (eEs (M x)))) (hl:∀ x,Pn x->(L (M x)).length<=10000) (hK:K<=100000)
  (I:List E->Prop) (hP:∀ A,I A->∀ x∈A,Pn x) (hN:∀ A,I A->A.length<=K) (hI:∀ A x,I A->x∈A->I (Zk A ((L (M x)).map toE))):∀ (d i:Nat) (A:List E) (σ:Qa),K-i=d->i<=A.length->GS σ0 ext (zer A) A o σ->I A->
  ∃ σ',GS σ0 ext (zer (groM M d i A)) (groM M d i A) o σ'/\I (groM M d i A)/\
   f85_L1 Qb 0 (.ptr σ0.length 0) (.ptr (σ0.length+1) 0) (.ptr (σ0.length+3) 0) (.ptr (σ0.length+4) 0) (x6 σ0.length) (N i) σ=tail1 σ0.length σ':=by
 intro d
 induction d with
 | zero=>
  intro i A σ hd hi h hA
  have hn:=hN A hA
  obtain ⟨y,g1,g2⟩:=h.al
  refine ⟨σ,h,hA,?_⟩
  have hl1:ZX (.ptr (σ0.length+4) 0) σ=some y:=Qc g1 rfl
  rw [f85_L1_eq Qb rfl]
  simp (disch:=omega) only [N,Vk,hl1,gG,lenR g2,Qn,ltF,tail1]
 | succ d ih=>
  intro i A σ hd hi h hA
  have hn:=hN A hA
  obtain ⟨y,g1,g2⟩:=h.al
  have hl1:ZX (.ptr (σ0.length+4) 0) σ=some y:=Qc g1 rfl
  unfold groM
  by_cases hlt:i<A.length
  ·rw [if_pos hlt]
   have hx:ge A i∈A:=by rw [Zi hlt]; exact List.getElem_mem hlt
   have hPx:=hP A hA _ hx
   have hI2:=hI A _ hA hx
   obtain ⟨σ2,p1,p2⟩:=gr_L2 (i:=i) (by omega) (hl _ hPx) _ 0 A σ rfl (Nat.zero_le _) h (by rw [List.drop_zero]; exact Nat.le_trans (hN _ hI2) hK)
   rw [List.drop_zero] at p2
   obtain ⟨σ',r1,r2,r3⟩:=ih (i+1) _ σ2 (by omega) (by have:=addAll_ge A ((L (M (ge A i))).map toE); omega) p2 hI2
   refine ⟨σ',r1,r2,?_⟩
   rcases g2 with ⟨e1,_⟩ | ⟨r,rfl,w1,w2,w3⟩
   ·rw [e1] at hlt; exact absurd hlt (by simp)
   ·obtain ⟨y0,he⟩:=hext
    have hex:=h.ex
    rw [he] at hex
    have hr:=QT w1
    have hld:load PP 102 (.ptr r (i*2)) σ=some (val (ge A i)):=by
     have:=ldW (A:=A) hr hlt
     rwa [W_eq w1] at this
    have hlen:∀ σ':Qa,len PP 134 (.rsl r 2 0 A.length) σ'=some (.p (.int .i64 (A.length:Nat))):=fun σ'=>by simp [len,uL]
    have hmv:=hM _ hPx σ h.low
    rw [<-r3,<-p1,f85_L1_eq Qb rfl]
    simp (disch:=omega) only [N,Vk,hl1,gG,hlen,Qn,ltT,fa137_1,gP,load135,Qc (off:=1) hex rfl,idxL,hld,hmv,len138]
    rfl
  ·rw [if_neg hlt]
   refine ⟨σ,h,hA,?_⟩
   rw [f85_L1_eq Qb rfl]
   simp (disch:=omega) only [N,Vk,hl1,gG,lenR g2,Qn,ltF,tail1]
theorem S111n (σ:Qa):CC 0 111 [.p .nilsl,.fn 112 []] σ=some (.tuple [],σ):=by
 obtain ⟨b,e1,h2,h3⟩:=Jj (n:=0) (by omega)
 have c0:CC 0 126 [.p .nilsl,.p (.int .i64 0),.p (.int .i64 ((0:Nat):Int)),.fn 112 []] σ=some (.tuple [],σ):=by
  refine F126_call ?_
  have a1:binOp PP .add 3 (.p (.int .i64 0)) (.p (.int .i64 1))=some (.p (.int .i64 ((1:Nat):Int))):=add1 (a:=0) (by omega)
  rw [F126_eq]
  simp only [a1,gG]
  rw [f126_L0_eq Qb rfl]
  simp (disch:=omega) only [Qn,ltF,gG]
 have c1:CC 0 121 [.p .nilsl,.p (.int .i64 0),.p (.int .i64 ((0:Nat):Int)),I b,.fn 112 []] σ=some (.tuple [],σ):=by
  refine F121_call ?_
  have a2:binOp PP .sub 3 (.p (.int .i64 ((0:Nat):Int))) (.p (.int .i64 0))=some (.p (.int .i64 ((0-0:Nat):Int))):=subN (a:=0) (b:=0) (Nat.le_refl 0) (by omega)
  rw [F121_eq,f121_L0_eq Qb rfl]
  simp (disch:=omega) only [a2,QX,leT,gG,Qq,List.append_nil,c0]
 have hl:len PP 134 (.p .nilsl) σ=some (.p (.int .i64 ((0:Nat):Int))):=by simp [len,uL]
 refine F111_call ?_
 simp only [I,U] at c1 e1
 rw [F111_eq]
 simp (disch:=omega) only [hl,gG,Ji,Qi,Qq,List.append_nil,e1,c1]
theorem gr_sort {l:List (E×Int)} {A:List E} {σ:Qa} (h:GS σ0 ext l A o σ) (hn:A.length<=100000) :
  ∃ B σ' y,B.Perm A/\B.Pairwise leB/\GS σ0 ext l B o σ'/\σ'[σ0.length+4]?=some (.mix [y])/\RowL σ' (σ0.length+5) B y/\
   tail1 σ0.length σ=f85_L3 Qb 0 (.ptr σ0.length 0) (.ptr (σ0.length+1) 0) (.ptr (σ0.length+3) 0) (.ptr (σ0.length+4) 0) y (N B.length) (N 0) σ':=by
 obtain ⟨y,g1,g2⟩:=h.al
 have hl1:ZX (.ptr (σ0.length+4) 0) σ=some y:=Qc g1 rfl
 have hlen:=fun σ':Qa=>lenR (σ':=σ') g2
 have g2':=g2
 rcases g2' with ⟨e1,rfl⟩ | ⟨r,rfl,w1,w2,w3⟩
 ·subst e1
  refine ⟨[],σ,.p .nilsl,List.Perm.refl _,List.Pairwise.nil,h,g1,g2,?_⟩
  simp only [tail1,Vk,hl1,gG,Qq,List.append_nil,S111n,hlen]
  rfl
 ·obtain ⟨B,e,s1,s2,s3⟩:=sort_ok (lo:=0) S112 ordB (Nat.zero_le _) hn w1
  have hBl:B.length=A.length:=s2.length_eq
  have hr:=QT w1
  have km:∀ j row,j≠r->σ[j]?=some row->(W (σ++e) r B)[j]?=some row:=fun j row hj hh=>Qu (by rw [List.getElem?_append_left (QT hh)]; exact hh) hj
  have gr:(W (σ++e) r B)[r]?=some (.mix (cels B)):=Jk (by rw [List.length_append]; omega) B
  obtain ⟨z,z1,z2⟩:=h.z2
  have hgs:GS σ0 ext l B o (W (σ++e) r B):=by
   refine ⟨fun j hj=>?_,km _ _ (by omega) h.ex,⟨z,km _ _ (by omega) z1,z2⟩,km _ _ (by omega) h.mp,km _ _ (by omega) h.ot,h.ol,_,km _ _ (by omega) g1,?_⟩
   ·have hj2:=h.low j hj
    cases hx:σ0[j]? with
    | none=>have:=List.getElem?_eq_none_iff.1 hx; omega
    | some row=>
     rw [hx] at hj2
     exact km _ _ (by omega) hj2
   ·exact .inr ⟨r,by rw [hBl],gr,w2,fun e=>w3 (by rw [e] at hBl; exact List.length_eq_zero_iff.1 hBl.symm)⟩
  have g4:=km _ _ (by omega) g1
  refine ⟨B,_,_,s2,sd_pair (by rw [hBl]; exact s3),hgs,g4,.inr ⟨r,by rw [hBl],gr,w2,fun e=>w3 (by rw [e] at hBl; exact List.length_eq_zero_iff.1 hBl.symm)⟩,?_⟩
  simp only [tail1,Vk,hl1,gG,Qq,List.append_nil,s1,Qc (off:=0) g4 rfl,hlen,hBl]
  rfl
end
end Go.D.StS
end
