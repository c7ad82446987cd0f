/- Equations of functions 65, 66, 95, 25, 27, 26, 28, 29, 30, printed by gen.py. -/
import Derived.Test.YtkpdgafinpedgaaGreatUc
import Derived.Test.YtkpdgafinpedgaaGreatUf
import Derived.Test.YtkpdgafinpedgaaGreatUb
section
set_option linter.unusedVariables false
set_option maxRecDepth 10000
namespace Go.D
open Go.Proofs
noncomputable section
variable (G:Qe) (lo:Nat) {σ:Qa} {r:DV×Qa}
open _root_.Go.D.Code (fstC sndC)
open _root_.Go.D.Ann (left right)
def c65_0:Code:=Qs Tryz.f65
def a65_0:Ann:=(pol 65).ann
def F65 (a b:DV) (σ:Qa):RS:=
 Qm G PP (pol 65) CC lo c65_0 a65_0 (a::b::zn 19 []) σ (finR PP Tryz.f65.results.toList)
theorem F65_eq (G:Qe) (lo:Nat) (a b:DV) (σ:Qa):F65 G lo a b σ =
 (boxV a).bind fun z2=>
 (boxV b).bind fun z3=>
 (load PP 25 (DV.ptr (List.length σ) 0) ((σ++[Row.mix z2])++[Row.mix z3])).bind fun m=>
 (Qg CC (DV.fn 81 []) [m] ((σ++[Row.mix z2])++[Row.mix z3])).bind fun O=>
 (fieldAddr PP 54 (DV.ptr (List.length (σ++[Row.mix z2])) 0) 0).bind fun H=>
 (load PP 22 H ((σ++[Row.mix z2])++[Row.mix z3])).bind fun k=>
 (len PP 22 k ((σ++[Row.mix z2])++[Row.mix z3])).bind fun g=>
 (fieldAddr PP 25 (DV.ptr (List.length σ) 0) 2).bind fun i=>
 (load PP 23 i ((σ++[Row.mix z2])++[Row.mix z3])).bind fun j=>
 (len PP 23 j ((σ++[Row.mix z2])++[Row.mix z3])).bind fun l=>
 (binOp PP .eql 3 g l).bind fun q=>
 (Qg CC (DV.fn 73 []) [q,(DV.p (PV.int IntKind.i64 (6)))] ((σ++[Row.mix z2])++[Row.mix z3])).bind fun w=>
 (fieldAddr PP 54 (DV.ptr (List.length (σ++[Row.mix z2])) 0) 0).bind fun F=>
 (load PP 22 F ((σ++[Row.mix z2])++[Row.mix z3])).bind fun ah=>
 (Qg CC (DV.fn 82 []) [ah] ((σ++[Row.mix z2])++[Row.mix z3])).bind fun R=>
 (Qg CC (DV.fn 73 []) [R,(DV.p (PV.int IntKind.i64 (3)))] ((σ++[Row.mix z2])++[Row.mix z3])).bind fun af=>
 (buildSlice PP none 143 3 [(0,O),(1,w),(2,af)] ((σ++[Row.mix z2])++[Row.mix z3])).bind fun r19_1=>
 (Qg CC (DV.fn 53 []) [r19_1.1] r19_1.2).bind fun Q=>
 some (Q,r19_1.2):=by kernel_rfl
theorem F65_call {lo:Nat} {a b:DV} (h:F65 Qb lo a b σ=some r):CC lo 65 [a,b] σ=some r:=
 callL_run Tryz.func65 (by decide +kernel) rfl (by decide +kernel) h
def c66_0:Code:=Qs Tryz.f66
def a66_0:Ann:=(pol 66).ann
def a66_7:Ann:=right (left (right (right a66_0)))
def a66_8:Ann:=left a66_7
def c66_9:Code:=fstC (fstC (sndC (fstC (sndC (sndC c66_0)))))
def c66_21:Code:=sndC (sndC (sndC c66_0))
def a66_21:Ann:=right (right (right a66_0))
def f66_L0 (c d f O i j l:DV) (σ:Qa):RS:=
 Qm G PP (pol 66) CC lo (.loop c66_9) a66_8 (Z::Z::c::d::f::Z::O::Z::Z::Z::i::j::l::zn 17 []) σ
 (Qf 0 a66_7 (seqC G PP (pol 66) CC lo c66_21 a66_21 (finR PP Tryz.f66.results.toList)))
def F66 (a b:DV) (σ:Qa):RS:=
 Qm G PP (pol 66) CC lo c66_0 a66_0 (a::b::zn 28 []) σ (finR PP Tryz.f66.results.toList)
theorem f66_L0_eq (G:Qe) (hG:Qo G) (lo:Nat) (c d f O i j l:DV) (σ:Qa):f66_L0 G lo c d f O i j l σ =
 (binOp PP .lss 3 l j).bind fun q=>
 Qh q
 (
 (indexAddr PP 22 i l).bind fun w=>
 (load PP 3 w σ).bind fun F=>
 (fieldAddr PP 137 O 0).bind fun ah=>
 (load PP 134 ah σ).bind fun R=>
 (build PP 102 [(0,F),(1,I0)]).bind fun b8=>
 (buildSlice PP none 134 1 [(0,b8)] σ).bind fun r20_1=>
 (append PP lo false 134 134 R r20_1.1 r20_1.2).bind fun r21_2=>
 (fieldAddr PP 137 O 0).bind fun o=>
 (store PP lo 134 o r21_2.1 r21_2.2).bind fun σ3=>
 (binOp PP .add 3 l I1).bind fun z=>
 f66_L0 G lo c d f O i j z σ3
 )
 (
 (fieldAddr PP 137 O 1).bind fun A=>
 (store PP lo 135 A (DV.fn 95 [c,d]) σ).bind fun σ4=>
 (load PP 137 O σ4).bind fun ac=>
 (Qd CC lo (DV.fn 85 []) [ac] σ4).bind fun r27_5=>
 (Qj r27_5.1 0).bind fun au=>
 (Qj r27_5.1 1).bind fun S=>
 (store PP lo 95 f au r27_5.2).bind fun σ6=>
 (Vy PP 95 f σ6).bind fun v0=>
 some ((DV.tuple [v0,S]),σ6)
 ):=(Ql G hG).trans (by kernel_rfl)
theorem F66_eq (G:Qe) (lo:Nat) (a b:DV) (σ:Qa):F66 G lo a b σ =
 (boxV a).bind fun z2=>
 (boxV b).bind fun z3=>
 (Qx PP 95).bind fun z4=>
 (Qx PP 137).bind fun z6=>
 (fieldAddr PP 25 (DV.ptr (List.length σ) 0) 1).bind fun g=>
 (load PP 22 g ((((σ++[Row.mix z2])++[Row.mix z3])++[Row.mix z4])++[Row.mix z6])).bind fun i=>
 (len PP 22 i ((((σ++[Row.mix z2])++[Row.mix z3])++[Row.mix z4])++[Row.mix z6])).bind fun j=>
 f66_L0 G lo (DV.ptr (List.length σ) 0) (DV.ptr (List.length (σ++[Row.mix z2])) 0) (DV.ptr (List.length ((σ++[Row.mix z2])++[Row.mix z3])) 0) (DV.ptr (List.length (((σ++[Row.mix z2])++[Row.mix z3])++[Row.mix z4])) 0) i j I0 ((((σ++[Row.mix z2])++[Row.mix z3])++[Row.mix z4])++[Row.mix z6]):=by kernel_rfl
theorem F66_call {lo:Nat} {a b:DV} (h:F66 Qb lo a b σ=some r):CC lo 66 [a,b] σ=some r:=
 callL_run Tryz.func66 (by decide +kernel) rfl (by decide +kernel) h
def c95_0:Code:=Qs Tryz.f95
def a95_0:Ann:=(pol 95).ann
def a95_15:Ann:=right (left (right (right (right a95_0))))
def a95_16:Ann:=left a95_15
def c95_17:Code:=fstC (fstC (sndC (fstC (sndC (sndC (sndC c95_0))))))
def a95_24:Ann:=left (right (right (left a95_16)))
def a95_31:Ann:=right (right (right (left a95_24)))
def c95_38:Code:=sndC (fstC (sndC (sndC (sndC (fstC (fstC (sndC (sndC c95_17))))))))
def a95_38:Ann:=right (left a95_31)
def c95_45:Code:=sndC (sndC (sndC c95_17))
def a95_45:Ann:=right (right (right (left a95_16)))
def c95_46:Code:=sndC (sndC (sndC (sndC c95_0)))
def a95_46:Ann:=right (right (right (right a95_0)))
def f95_L0 (b c d m K A ac:DV) (σ:Qa):RS:=
 Qm G PP (pol 95) CC lo (.loop c95_17) a95_16 (Z::b::c::d::Z::m::zn 18 (K::A::ac::zn 55 [])) σ
 (Qf 0 a95_15 (seqC G PP (pol 95) CC lo c95_46 a95_46 (finR PP Tryz.f95.results.toList)))
def f95_J0 (b c d m H k g K A ac U au S aw B I ae V ai aj aq Y L C x y X P N t J E ak ar az T W aa b9 be bp av bc bb bh bm bi:DV) (σ:Qa):RS:=
 (seqC G PP (pol 95) CC lo c95_38 a95_38 (Qf 2 a95_31 (Qf 1 a95_24 (seqC G PP (pol 95) CC lo c95_45 a95_45 (QN G PP (pol 95) CC lo c95_17 a95_16 (Qf 0 a95_15 (seqC G PP (pol 95) CC lo c95_46 a95_46 (finR PP Tryz.f95.results.toList)))))))) .normal (Z::b::c::d::Z::m::Z::H::k::g::zn 14 (K::A::ac::U::au::S::aw::B::I::ae::V::ai::aj::aq::Y::L::C::x::y::X::P::N::t::J::E::ak::ar::az::T::W::aa::b9::be::bp::av::bc::bb::bh::bm::bi::zn 18 [])) σ
def f95_J1 (b c d m H k g K A ac U au S aw B I ae V ai aj aq Y L C x y X P N t J E ak ar az T W aa b9 be bp av bc bb bh bm bi bj bu bg bf cm dc br ba cz cc M ck ca bq bz bv:DV) (σ:Qa):RS:=
 (Qf 2 a95_31 (Qf 1 a95_24 (seqC G PP (pol 95) CC lo c95_45 a95_45 (QN G PP (pol 95) CC lo c95_17 a95_16 (Qf 0 a95_15 (seqC G PP (pol 95) CC lo c95_46 a95_46 (finR PP Tryz.f95.results.toList))))))) .normal (Z::b::c::d::Z::m::Z::H::k::g::zn 14 ([K,A,ac,U,au,S,aw,B,I,ae,V,ai,aj,aq,Y,L,C,x,y,X,P,N,t,J,E,ak,ar,az,T,W,aa,b9,be,bp,av,bc,bb,bh,bm,bi,bj,bu,bg,bf,cm,dc,br,ba,cz,cc,M,ck,ca,bq,bz,bv,Z,Z])) σ
def F95 (a b c:DV) (σ:Qa):RS:=
 Qm G PP (pol 95) CC lo c95_0 a95_0 (a::b::c::zn 79 []) σ (finR PP Tryz.f95.results.toList)
theorem f95_L0_eq (G:Qe) (hG:Qo G) (lo:Nat) (b c d m K A ac:DV) (σ:Qa):f95_L0 G lo b c d m K A ac σ =
 (binOp PP .lss 3 ac A).bind fun U=>
 Qh U
 (
 (indexAddr PP 22 K ac).bind fun au=>
 (load PP 3 au σ).bind fun S=>
 (fieldAddr PP 25 b 2).bind fun aw=>
 (load PP 23 aw σ).bind fun B=>
 (indexAddr PP 23 B S).bind fun ae=>
 (fieldAddr PP 69 ae 1).bind fun V=>
 (load PP 3 V σ).bind fun ai=>
 (build PP 102 [(0,ai),(1,I0)]).bind fun aj=>
 (fieldAddr PP 25 b 2).bind fun aq=>
 (load PP 23 aq σ).bind fun Y=>
 (indexAddr PP 23 Y S).bind fun C=>
 (fieldAddr PP 69 C 2).bind fun x=>
 (load PP 3 x σ).bind fun y=>
 (build PP 141 [(0,aj),(1,y)]).bind fun X=>
 (Qx PP 141).bind fun z8=>
 (store PP lo 141 (DV.ptr (List.length σ) 0) X (σ++[Row.mix z8])).bind fun σ2=>
 (fieldAddr PP 54 c 0).bind fun P=>
 (load PP 22 P σ2).bind fun N=>
 (indexAddr PP 22 N S).bind fun J=>
 (load PP 3 J σ2).bind fun E=>
 (fieldAddr PP 102 d 1).bind fun ar=>
 (load PP 3 ar σ2).bind fun az=>
 (binOp PP .eql 3 az I1).bind fun T=>
 G _ T true (some (E,σ2)) σ2 fun aa σ3=>
 Gp G T true (binOp PP .gtr 3 aa I0) σ3 fun b9 σ4=>
 (Qt T b9 (DV.p (PV.bool false))).bind fun be=>
 Qh be
 (
 f95_J0 G lo b c d m S (DV.ptr (List.length σ) 0) E K A ac U au S aw B S ae V ai aj aq Y S C x y X P N S J E be ar az T T aa b9 be Z Z Z Z Z Z Z σ4
 )
 (
 (fieldAddr PP 102 d 1).bind fun bp=>
 (load PP 3 bp σ4).bind fun av=>
 (binOp PP .eql 3 av I0).bind fun bc=>
 G _ bc true (some (E,σ4)) σ4 fun bh σ9=>
 Gp G bc true (binOp PP .eql 3 bh I0) σ9 fun bm σ10=>
 (Qt bc bm (DV.p (PV.bool false))).bind fun bi=>
 f95_J0 G lo b c d m S (DV.ptr (List.length σ) 0) E K A ac U au S aw B S ae V ai aj aq Y S C x y X P N S J E bi ar az T T aa b9 be bp av bc bc bh bm bi σ10
 )
 )
 (
 some (m,σ)
 ):=(Ql G hG).trans (by kernel_rfl)
theorem f95_J0_eq (G:Qe) (lo:Nat) (b c d m H k g K A ac U au S aw B I ae V ai aj aq Y L C x y X P N t J E ak ar az T W aa b9 be bp av bc bb bh bm bi:DV) (σ:Qa):f95_J0 G lo b c d m H k g K A ac U au S aw B I ae V ai aj aq Y L C x y X P N t J E ak ar az T W aa b9 be bp av bc bb bh bm bi σ =
 Qh ak
 (
 (load PP 141 k σ).bind fun bu=>
 (buildSlice PP none 138 1 [(0,bu)] σ).bind fun r66_5=>
 (append PP lo false 138 138 m r66_5.1 r66_5.2).bind fun r67_6=>
 f95_J1 G lo b c d r67_6.1 H k g K A ac U au S aw B I ae V ai aj aq Y L C x y X P N t J E ak ar az T W aa b9 be bp av bc bb bh bm bi m bu r66_5.1 r67_6.1 Z Z Z Z Z Z Z Z Z Z Z Z r67_6.2
 )
 (
 (fieldAddr PP 102 d 1).bind fun dc=>
 (load PP 3 dc σ).bind fun br=>
 (binOp PP .eql 3 br I0).bind fun ba=>
 Qh ba
 (
 (fieldAddr PP 102 d 0).bind fun cc=>
 (load PP 3 cc σ).bind fun M=>
 (build PP 102 [(0,M),(1,g)]).bind fun ca=>
 (build PP 141 [(0,ca),(1,(DV.p (PV.int IntKind.i64 (11))))]).bind fun bq=>
 (buildSlice PP none 138 1 [(0,bq)] σ).bind fun r78_7=>
 (append PP lo false 138 138 m r78_7.1 r78_7.2).bind fun r79_8=>
 f95_J1 G lo b c d r79_8.1 H k g K A ac U au S aw B I ae V ai aj aq Y L C x y X P N t J E ak ar az T W aa b9 be bp av bc bb bh bm bi Z Z Z Z ba dc br ba m cc M g ca bq r78_7.1 r79_8.1 r79_8.2
 )
 (
 f95_J1 G lo b c d m H k g K A ac U au S aw B I ae V ai aj aq Y L C x y X P N t J E ak ar az T W aa b9 be bp av bc bb bh bm bi Z Z Z Z ba dc br ba Z Z Z Z Z Z Z Z σ
 )
 ):=by kernel_rfl
theorem f95_J1_eq (G:Qe) (lo:Nat) (b c d m H k g K A ac U au S aw B I ae V ai aj aq Y L C x y X P N t J E ak ar az T W aa b9 be bp av bc bb bh bm bi bj bu bg bf cm dc br ba cz cc M ck ca bq bz bv:DV) (σ:Qa):f95_J1 G lo b c d m H k g K A ac U au S aw B I ae V ai aj aq Y L C x y X P N t J E ak ar az T W aa b9 be bp av bc bb bh bm bi bj bu bg bf cm dc br ba cz cc M ck ca bq bz bv σ =
 (binOp PP .add 3 ac I1).bind fun c7=>
 f95_L0 G lo b c d m K A c7 σ:=by kernel_rfl
theorem F95_eq (G:Qe) (lo:Nat) (a b c:DV) (σ:Qa):F95 G lo a b c σ =
 (boxV a).bind fun z3=>
 (fieldAddr PP 102 (DV.ptr (List.length σ) 0) 1).bind fun i=>
 (load PP 3 i (σ++[Row.mix z3])).bind fun j=>
 (binOp PP .gtr 3 j I1).bind fun l=>
 Qh l
 (
 (fieldAddr PP 102 (DV.ptr (List.length σ) 0) 0).bind fun q=>
 (load PP 3 q (σ++[Row.mix z3])).bind fun w=>
 (fieldAddr PP 102 (DV.ptr (List.length σ) 0) 1).bind fun F=>
 (load PP 3 F (σ++[Row.mix z3])).bind fun ah=>
 (binOp PP .sub 3 ah I1).bind fun R=>
 (build PP 102 [(0,w),(1,R)]).bind fun af=>
 (build PP 141 [(0,af),(1,(DV.p (PV.int IntKind.i64 (11))))]).bind fun b8=>
 (buildSlice PP none 138 1 [(0,b8)] (σ++[Row.mix z3])).bind fun r20_1=>
 some (r20_1.1,r20_1.2)
 )
 (
 (load PP 25 b (σ++[Row.mix z3])).bind fun u=>
 (fieldAddr PP 102 (DV.ptr (List.length σ) 0) 0).bind fun o=>
 (load PP 3 o (σ++[Row.mix z3])).bind fun z=>
 (Qg CC (DV.fn 84 []) [u,z] (σ++[Row.mix z3])).bind fun K=>
 (len PP 22 K (σ++[Row.mix z3])).bind fun A=>
 f95_L0 G lo b c (DV.ptr (List.length σ) 0) (DV.p PV.nilsl) K A I0 (σ++[Row.mix z3])
 ):=by kernel_rfl
theorem F95_call {lo:Nat} {a b c:DV} (h:F95 Qb lo a b c σ=some r):CC lo 95 [a,b,c] σ=some r:=
 callL_run Tryz.func95 (by decide +kernel) rfl (by decide +kernel) h
def c25_0:Code:=Qs Tryz.f25
def a25_0:Ann:=(pol 25).ann
def F25 (a b:DV) (σ:Qa):RS:=
 Qm G PP (pol 25) CC lo c25_0 a25_0 (a::b::zn 23 []) σ (finR PP Tryz.f25.results.toList)
theorem F25_eq (G:Qe) (lo:Nat) (a b:DV) (σ:Qa):F25 G lo a b σ =
 (boxV a).bind fun z2=>
 (boxV b).bind fun z3=>
 (Qx PP 33).bind fun z4=>
 (load PP 25 (DV.ptr (List.length σ) 0) (((σ++[Row.mix z2])++[Row.mix z3])++[Row.mix z4])).bind fun g=>
 (load PP 54 (DV.ptr (List.length (σ++[Row.mix z2])) 0) (((σ++[Row.mix z2])++[Row.mix z3])++[Row.mix z4])).bind fun i=>
 (Qg CC (DV.fn 65 []) [g,i] (((σ++[Row.mix z2])++[Row.mix z3])++[Row.mix z4])).bind fun j=>
 (binOp PP .neq 34 j I0).bind fun q=>
 Qh q
 (
 (build PP 33 []).bind fun w=>
 (store PP lo 33 (DV.ptr (List.length ((σ++[Row.mix z2])++[Row.mix z3])) 0) w (((σ++[Row.mix z2])++[Row.mix z3])++[Row.mix z4])).bind fun σ1=>
 (Vy PP 33 (DV.ptr (List.length ((σ++[Row.mix z2])++[Row.mix z3])) 0) σ1).bind fun v0=>
 some ((DV.tuple [v0,j]),σ1)
 )
 (
 (load PP 25 (DV.ptr (List.length σ) 0) (((σ++[Row.mix z2])++[Row.mix z3])++[Row.mix z4])).bind fun R=>
 (load PP 54 (DV.ptr (List.length (σ++[Row.mix z2])) 0) (((σ++[Row.mix z2])++[Row.mix z3])++[Row.mix z4])).bind fun af=>
 (Qd CC lo (DV.fn 66 []) [R,af] (((σ++[Row.mix z2])++[Row.mix z3])++[Row.mix z4])).bind fun r19_2=>
 (Qj r19_2.1 0).bind fun Q=>
 (Qj r19_2.1 1).bind fun u=>
 (Qx PP 95).bind fun z7=>
 (store PP lo 95 (DV.ptr (List.length r19_2.2) 0) Q (r19_2.2++[Row.mix z7])).bind fun σ3=>
 (fieldAddr PP 95 (DV.ptr (List.length r19_2.2) 0) 0).bind fun o=>
 (load PP 33 o σ3).bind fun z=>
 (store PP lo 33 (DV.ptr (List.length ((σ++[Row.mix z2])++[Row.mix z3])) 0) z σ3).bind fun σ4=>
 (Vy PP 33 (DV.ptr (List.length ((σ++[Row.mix z2])++[Row.mix z3])) 0) σ4).bind fun v0=>
 some ((DV.tuple [v0,u]),σ4)
 ):=by kernel_rfl
theorem F25_call {lo:Nat} {a b:DV} (h:F25 Qb lo a b σ=some r):CC lo 25 [a,b] σ=some r:=
 callL_run Tryz.func25 (by decide +kernel) rfl (by decide +kernel) h
def c27_0:Code:=Qs Tryz.f27
def a27_0:Ann:=(pol 27).ann
def a27_29:Ann:=right (left (right (right (right (right (right a27_0))))))
def a27_30:Ann:=left a27_29
def c27_31:Code:=fstC (fstC (sndC (fstC (sndC (sndC (sndC (sndC (sndC c27_0))))))))
def a27_38:Ann:=left (right (right (left a27_30)))
def a27_46:Ann:=right (left (right (right (left a27_38))))
def a27_47:Ann:=left a27_46
def c27_48:Code:=fstC (fstC (sndC (fstC (sndC (sndC (fstC (fstC (sndC (sndC c27_31)))))))))
def c27_58:Code:=sndC (sndC (sndC (fstC (fstC (sndC (sndC c27_31))))))
def a27_58:Ann:=right (right (right (left a27_38)))
def c27_59:Code:=sndC (sndC (sndC c27_31))
def a27_59:Ann:=right (right (right (left a27_30)))
def c27_60:Code:=sndC (sndC (sndC (sndC (sndC (sndC c27_0)))))
def a27_60:Ann:=right (right (right (right (right (right a27_0)))))
def f27_L0 (c d f g j t J E:DV) (σ:Qa):RS:=
 Qm G PP (pol 27) CC lo (.loop c27_31) a27_30 (Z::Z::c::d::f::Z::Z::Z::Z::g::Z::j::zn 34 (t::J::E::zn 39 [])) σ
 (Qf 0 a27_29 (seqC G PP (pol 27) CC lo c27_60 a27_60 (finR PP Tryz.f27.results.toList)))
def f27_L1 (c d f g j q w F t J E:DV) (σ:Qa):RS:=
 Qm G PP (pol 27) CC lo (.loop c27_48) a27_47 (Z::Z::c::d::f::Z::Z::Z::Z::g::Z::j::Z::q::w::F::zn 30 (t::J::E::zn 39 [])) σ
 (Qf 2 a27_46 (seqC G PP (pol 27) CC lo c27_58 a27_58 (Qf 1 a27_38 (seqC G PP (pol 27) CC lo c27_59 a27_59 (QN G PP (pol 27) CC lo c27_31 a27_30 (Qf 0 a27_29 (seqC G PP (pol 27) CC lo c27_60 a27_60 (finR PP Tryz.f27.results.toList))))))))
def F27 (a b c:DV) (σ:Qa):RS:=
 Qm G PP (pol 27) CC lo c27_0 a27_0 (a::b::c::zn 85 []) σ (finR PP Tryz.f27.results.toList)
theorem f27_L0_eq (G:Qe) (hG:Qo G) (lo:Nat) (c d f g j t J E:DV) (σ:Qa):f27_L0 G lo c d f g j t J E σ =
 (binOp PP .lss 3 E J).bind fun ak=>
 Qh ak
 (
 (indexAddr PP 22 t E).bind fun az=>
 (load PP 3 az σ).bind fun T=>
 (indexAddr PP 22 c E).bind fun b9=>
 (load PP 3 b9 σ).bind fun be=>
 (fieldAddr PP 54 f 0).bind fun bp=>
 (load PP 22 bp σ).bind fun av=>
 (load PP 25 d σ).bind fun bc=>
 (Qg CC (DV.fn 55 []) [bc,be,T] σ).bind fun bm=>
 (indexAddr PP 22 av bm).bind fun bi=>
 (load PP 3 bi σ).bind fun bj=>
 f27_L1 G lo c d f g j T be bj t J E σ
 )
 (
 some ((DV.tuple [j,I0]),σ)
 ):=(Ql G hG).trans (by kernel_rfl)
theorem f27_L1_eq (G:Qe) (hG:Qo G) (lo:Nat) (c d f g j q w F t J E:DV) (σ:Qa):f27_L1 G lo c d f g j q w F t J E σ =
 (binOp PP .gtr 3 F I0).bind fun bg=>
 Qh bg
 (
 (fieldAddr PP 95 g 1).bind fun br=>
 (load PP 93 br σ).bind fun ba=>
 (build PP 102 [(0,w),(1,F)]).bind fun M=>
 (lookup PP 93 ba M false σ).bind fun ck=>
 (buildSlice PP none 22 1 [(0,ck)] σ).bind fun r76_5=>
 (append PP lo false 22 22 j r76_5.1 r76_5.2).bind fun r77_6=>
 (binOp PP .sub 3 F I1).bind fun cm=>
 f27_L1 G lo c d f g r77_6.1 q w cm t J E r77_6.2
 )
 (
 (fieldAddr PP 95 g 1).bind fun bv=>
 (load PP 93 bv σ).bind fun c7=>
 (build PP 102 [(0,q),(1,I0)]).bind fun n=>
 (lookup PP 93 c7 n false σ).bind fun cr=>
 (buildSlice PP none 22 1 [(0,cr)] σ).bind fun r84_7=>
 (append PP lo false 22 22 j r84_7.1 r84_7.2).bind fun r85_8=>
 (binOp PP .add 3 E I1).bind fun bn=>
 f27_L0 G lo c d f g r85_8.1 t J bn r85_8.2
 ):=(Ql G hG).trans (by kernel_rfl)
theorem F27_eq (G:Qe) (lo:Nat) (a b c:DV) (σ:Qa):F27 G lo a b c σ =
 (boxV a).bind fun z3=>
 (boxV b).bind fun z4=>
 (load PP 25 (DV.ptr (List.length σ) 0) ((σ++[Row.mix z3])++[Row.mix z4])).bind fun ah=>
 (load PP 54 (DV.ptr (List.length (σ++[Row.mix z3])) 0) ((σ++[Row.mix z3])++[Row.mix z4])).bind fun R=>
 (Qg CC (DV.fn 65 []) [ah,R] ((σ++[Row.mix z3])++[Row.mix z4])).bind fun af=>
 (binOp PP .neq 34 af I0).bind fun Q=>
 Qh Q
 (
 some ((DV.tuple [(DV.p PV.nilsl),af]),((σ++[Row.mix z3])++[Row.mix z4]))
 )
 (
 (load PP 25 (DV.ptr (List.length σ) 0) ((σ++[Row.mix z3])++[Row.mix z4])).bind fun z=>
 (load PP 54 (DV.ptr (List.length (σ++[Row.mix z3])) 0) ((σ++[Row.mix z3])++[Row.mix z4])).bind fun K=>
 (Qd CC lo (DV.fn 66 []) [z,K] ((σ++[Row.mix z3])++[Row.mix z4])).bind fun r25_1=>
 (Qj r25_1.1 0).bind fun ac=>
 (Qj r25_1.1 1).bind fun U=>
 (Qx PP 95).bind fun z9=>
 (store PP lo 95 (DV.ptr (List.length r25_1.2) 0) ac (r25_1.2++[Row.mix z9])).bind fun σ2=>
 (load PP 25 (DV.ptr (List.length σ) 0) σ2).bind fun S=>
 (Qg CC (DV.fn 54 []) [S,c] σ2).bind fun B=>
 (buildSlice PP none 143 2 [(0,U),(1,B)] σ2).bind fun r32_3=>
 (Qg CC (DV.fn 53 []) [r32_3.1] r32_3.2).bind fun ae=>
 (binOp PP .neq 34 ae I0).bind fun ai=>
 Qh ai
 (
 some ((DV.tuple [(DV.p PV.nilsl),ae]),r32_3.2)
 )
 (
 (fieldAddr PP 95 (DV.ptr (List.length r25_1.2) 0) 1).bind fun aq=>
 (load PP 93 aq r32_3.2).bind fun Y=>
 (indexAddr PP 22 c I0).bind fun C=>
 (load PP 3 C r32_3.2).bind fun x=>
 (build PP 102 [(0,x),(1,I0)]).bind fun y=>
 (lookup PP 93 Y y false r32_3.2).bind fun X=>
 (buildSlice PP none 22 1 [(0,X)] r32_3.2).bind fun r44_4=>
 (Zy PP 22 c (some I1) none none).bind fun t=>
 (len PP 22 t r44_4.2).bind fun J=>
 f27_L0 G lo c (DV.ptr (List.length σ) 0) (DV.ptr (List.length (σ++[Row.mix z3])) 0) (DV.ptr (List.length r25_1.2) 0) r44_4.1 t J I0 r44_4.2
 )
 ):=by kernel_rfl
theorem F27_call {lo:Nat} {a b c:DV} (h:F27 Qb lo a b c σ=some r):CC lo 27 [a,b,c] σ=some r:=
 callL_run Tryz.func27 (by decide +kernel) rfl (by decide +kernel) h
def c26_0:Code:=Qs Tryz.f26
def a26_0:Ann:=(pol 26).ann
def F26 (a:DV) (σ:Qa):RS:=
 Qm G PP (pol 26) CC lo c26_0 a26_0 (a::zn 6 []) σ (finR PP Tryz.f26.results.toList)
theorem F26_eq (G:Qe) (lo:Nat) (a:DV) (σ:Qa):F26 G lo a σ =
 (boxV a).bind fun z1=>
 (Qx PP 54).bind fun z2=>
 (fieldAddr PP 54 (DV.ptr (List.length σ) 0) 0).bind fun d=>
 (load PP 22 d ((σ++[Row.mix z1])++[Row.mix z2])).bind fun f=>
 (Qg CC (DV.fn 16 []) [f] ((σ++[Row.mix z1])++[Row.mix z2])).bind fun m=>
 (build PP 54 [(0,m)]).bind fun O=>
 (store PP lo 54 (DV.ptr (List.length (σ++[Row.mix z1])) 0) O ((σ++[Row.mix z1])++[Row.mix z2])).bind fun σ1=>
 (Vy PP 54 (DV.ptr (List.length (σ++[Row.mix z1])) 0) σ1).bind fun v0=>
 some (v0,σ1):=by kernel_rfl
theorem F26_call {lo:Nat} {a:DV} (h:F26 Qb lo a σ=some r):CC lo 26 [a] σ=some r:=
 callL_run Tryz.func26 (by decide +kernel) rfl (by decide +kernel) h
def c28_0:Code:=Qs Tryz.f28
def a28_0:Ann:=(pol 28).ann
def a28_13:Ann:=right (left (right (right a28_0)))
def a28_14:Ann:=left a28_13
def c28_15:Code:=fstC (fstC (sndC (fstC (sndC (sndC c28_0)))))
def c28_31:Code:=sndC (sndC (sndC c28_0))
def a28_31:Ann:=right (right (right a28_0))
def f28_L0 (d m:DV) (σ:Qa):RS:=
 Qm G PP (pol 28) CC lo (.loop c28_15) a28_14 (Z::Z::Z::d::Z::m::zn 21 []) σ
 (Qf 0 a28_13 (seqC G PP (pol 28) CC lo c28_31 a28_31 (finR PP Tryz.f28.results.toList)))
def F28 (a b:DV) (σ:Qa):RS:=
 Qm G PP (pol 28) CC lo c28_0 a28_0 (a::b::zn 25 []) σ (finR PP Tryz.f28.results.toList)
theorem f28_L0_eq (G:Qe) (hG:Qo G) (lo:Nat) (d m:DV) (σ:Qa):f28_L0 G lo d m σ =
 (fieldAddr PP 54 d 0).bind fun w=>
 (load PP 22 w σ).bind fun F=>
 (len PP 22 F σ).bind fun ah=>
 (binOp PP .lss 3 m ah).bind fun R=>
 Qh R
 (
 (fieldAddr PP 54 d 0).bind fun Q=>
 (load PP 22 Q σ).bind fun u=>
 (indexAddr PP 22 u m).bind fun z=>
 (load PP 3 z σ).bind fun K=>
 (Qg CC (DV.fn 57 []) [K] σ).bind fun A=>
 (unOp .not A).bind fun ac=>
 Qh ac
 (
 some ((DV.p (PV.int IntKind.i64 (3))),σ)
 )
 (
 (binOp PP .add 3 m I1).bind fun b8=>
 f28_L0 G lo d b8 σ
 )
 )
 (
 some (I0,σ)
 ):=(Ql G hG).trans (by kernel_rfl)
theorem F28_eq (G:Qe) (lo:Nat) (a b:DV) (σ:Qa):F28 G lo a b σ =
 (boxV a).bind fun z2=>
 (boxV b).bind fun z3=>
 (fieldAddr PP 54 (DV.ptr (List.length (σ++[Row.mix z2])) 0) 0).bind fun O=>
 (load PP 22 O ((σ++[Row.mix z2])++[Row.mix z3])).bind fun H=>
 (len PP 22 H ((σ++[Row.mix z2])++[Row.mix z3])).bind fun k=>
 (fieldAddr PP 25 (DV.ptr (List.length σ) 0) 2).bind fun g=>
 (load PP 23 g ((σ++[Row.mix z2])++[Row.mix z3])).bind fun i=>
 (len PP 23 i ((σ++[Row.mix z2])++[Row.mix z3])).bind fun j=>
 (binOp PP .neq 3 k j).bind fun l=>
 Qh l
 (
 some ((DV.p (PV.int IntKind.i64 (6))),((σ++[Row.mix z2])++[Row.mix z3]))
 )
 (
 f28_L0 G lo (DV.ptr (List.length (σ++[Row.mix z2])) 0) I0 ((σ++[Row.mix z2])++[Row.mix z3])
 ):=by kernel_rfl
theorem F28_call {lo:Nat} {a b:DV} (h:F28 Qb lo a b σ=some r):CC lo 28 [a,b] σ=some r:=
 callL_run Tryz.func28 (by decide +kernel) rfl (by decide +kernel) h
def c29_0:Code:=Qs Tryz.f29
def a29_0:Ann:=(pol 29).ann
def a29_9:Ann:=right (left (right (right (right a29_0))))
def a29_10:Ann:=left a29_9
def c29_11:Code:=fstC (fstC (sndC (fstC (sndC (sndC (sndC c29_0))))))
def c29_21:Code:=sndC (sndC (sndC (sndC c29_0)))
def a29_21:Ann:=right (right (right (right a29_0)))
def UU:Ann:=right (left a29_21)
def UH:Ann:=left UU
def UG:Code:=fstC (fstC (sndC (fstC c29_21)))
def a29_33:Ann:=left (right (left UH))
def a29_48:Ann:=right (right (right (right (left a29_33))))
def a29_49:Ann:=left a29_48
def c29_50:Code:=fstC (fstC (sndC (sndC (sndC (sndC (fstC (fstC (sndC UG))))))))
def c29_60:Code:=sndC (sndC UG)
def a29_60:Ann:=right (right (left UH))
def c29_61:Code:=sndC c29_21
def a29_61:Ann:=right a29_21
def f29_L0 (c d f m O H:DV) (σ:Qa):RS:=
 Qm G PP (pol 29) CC lo (.loop c29_11) a29_10 (Z::Z::c::d::f::m::O::H::zn 98 []) σ
 (Qf 0 a29_9 (seqC G PP (pol 29) CC lo c29_21 a29_21 (finR PP Tryz.f29.results.toList)))
def f29_L1 (c d f m O k:DV) (σ:Qa):RS:=
 Qm G PP (pol 29) CC lo (.loop UG) UH (Z::Z::c::d::f::m::O::Z::k::zn 97 []) σ
 (Qf 2 UU (seqC G PP (pol 29) CC lo c29_61 a29_61 (finR PP Tryz.f29.results.toList)))
def f29_J0_fr (c d f m O k:DV):Qp:=(Z::Z::c::d::f::m::O::Z::k::zn 97 [])
def f29_J0 (c d f m O k:DV) (σ:Qa):RS:=
 (seqC G PP (pol 29) CC lo c29_60 a29_60 (QN G PP (pol 29) CC lo UG UH (Qf 2 UU (seqC G PP (pol 29) CC lo c29_61 a29_61 (finR PP Tryz.f29.results.toList))))) .normal (f29_J0_fr c d f m O k) σ
def f29_L2 (c d f m O k g i:DV) (σ:Qa):RS:=
 Qm G PP (pol 29) CC lo (.loop c29_50) a29_49 (Z::Z::c::d::f::m::O::Z::k::g::i::zn 95 []) σ
 (Qf 4 a29_48 (Qf 3 a29_33 (seqC G PP (pol 29) CC lo c29_60 a29_60 (QN G PP (pol 29) CC lo UG UH (Qf 2 UU (seqC G PP (pol 29) CC lo c29_61 a29_61 (finR PP Tryz.f29.results.toList)))))))
def F29 (a b:DV) (σ:Qa):RS:=
 Qm G PP (pol 29) CC lo c29_0 a29_0 (a::b::zn 104 []) σ (finR PP Tryz.f29.results.toList)
theorem f29_L0_eq (G:Qe) (hG:Qo G) (lo:Nat) (c d f m O H:DV) (σ:Qa):f29_L0 G lo c d f m O H σ =
 (fieldAddr PP 25 c 1).bind fun l=>
 (load PP 22 l σ).bind fun q=>
 (len PP 22 q σ).bind fun w=>
 (binOp PP .lss 3 H w).bind fun F=>
 Qh F
 (
 (fieldAddr PP 25 c 1).bind fun b8=>
 (load PP 22 b8 σ).bind fun Q=>
 (indexAddr PP 22 Q H).bind fun o=>
 (load PP 3 o σ).bind fun z=>
 (Qg CC (DV.fn 59 []) [z,I0] σ).bind fun K=>
 (buildSlice PP none 22 1 [(0,K)] σ).bind fun r25_1=>
 (append PP lo false 22 22 m r25_1.1 r25_1.2).bind fun r26_2=>
 (binOp PP .add 3 H I1).bind fun R=>
 f29_L0 G lo c d f r26_2.1 O R r26_2.2
 )
 (
 f29_L1 G lo c d f m O I0 σ
 ):=(Ql G hG).trans (by kernel_rfl)
theorem f29_L1_eq (G:Qe) (hG:Qo G) (lo:Nat) (c d f m O k:DV) (σ:Qa):f29_L1 G lo c d f m O k σ =
 (fieldAddr PP 25 c 2).bind fun au=>
 (load PP 23 au σ).bind fun S=>
 (len PP 23 S σ).bind fun aw=>
 (binOp PP .lss 3 k aw).bind fun B=>
 Qh B
 (
 (fieldAddr PP 25 c 2).bind fun V=>
 (load PP 23 V σ).bind fun ai=>
 (indexAddr PP 23 ai k).bind fun aq=>
 (load PP 69 aq σ).bind fun Y=>
 (Qx PP 69).bind fun z9=>
 (store PP lo 69 (DV.ptr (List.length σ) 0) Y (σ++[Row.mix z9])).bind fun σ3=>
 (fieldAddr PP 54 d 0).bind fun L=>
 (load PP 22 L σ3).bind fun C=>
 (indexAddr PP 22 C k).bind fun y=>
 (load PP 3 y σ3).bind fun X=>
 (binOp PP .eql 3 X I0).bind fun P=>
 Qh P
 (
 (fieldAddr PP 69 (DV.ptr (List.length σ) 0) 0).bind fun t=>
 (load PP 3 t σ3).bind fun J=>
 (Qg CC (DV.fn 59 []) [J,I0] σ3).bind fun E=>
 (fieldAddr PP 69 (DV.ptr (List.length σ) 0) 1).bind fun ak=>
 (load PP 3 ak σ3).bind fun ar=>
 (Qg CC (DV.fn 59 []) [ar,I0] σ3).bind fun az=>
 (fieldAddr PP 69 (DV.ptr (List.length σ) 0) 2).bind fun T=>
 (load PP 3 T σ3).bind fun W=>
 (build PP 109 [(0,E),(1,az),(2,W)]).bind fun aa=>
 (buildSlice PP none 106 1 [(0,aa)] σ3).bind fun r55_4=>
 (append PP lo false 106 106 O r55_4.1 r55_4.2).bind fun r56_5=>
 f29_J0 G lo c d f m r56_5.1 k r56_5.2
 )
 (
 (fieldAddr PP 69 (DV.ptr (List.length σ) 0) 0).bind fun av=>
 (load PP 3 av σ3).bind fun bc=>
 (Qg CC (DV.fn 59 []) [bc,I0] σ3).bind fun bb=>
 (fieldAddr PP 69 (DV.ptr (List.length σ) 0) 0).bind fun bh=>
 (load PP 3 bh σ3).bind fun bm=>
 (fieldAddr PP 54 d 0).bind fun bi=>
 (load PP 22 bi σ3).bind fun bj=>
 (indexAddr PP 22 bj k).bind fun bg=>
 (load PP 3 bg σ3).bind fun bf=>
 (Qg CC (DV.fn 59 []) [bm,bf] σ3).bind fun cm=>
 (build PP 109 [(0,bb),(1,cm),(2,(DV.p (PV.int IntKind.i64 (11))))]).bind fun dc=>
 (fieldAddr PP 69 (DV.ptr (List.length σ) 0) 0).bind fun br=>
 (load PP 3 br σ3).bind fun ba=>
 (Qg CC (DV.fn 59 []) [ba,I1] σ3).bind fun cz=>
 (fieldAddr PP 69 (DV.ptr (List.length σ) 0) 1).bind fun cc=>
 (load PP 3 cc σ3).bind fun M=>
 (Qg CC (DV.fn 59 []) [M,I0] σ3).bind fun ck=>
 (fieldAddr PP 69 (DV.ptr (List.length σ) 0) 2).bind fun ca=>
 (load PP 3 ca σ3).bind fun bq=>
 (build PP 109 [(0,cz),(1,ck),(2,bq)]).bind fun bz=>
 (buildSlice PP none 106 2 [(0,dc),(1,bz)] σ3).bind fun r79_6=>
 (append PP lo false 106 106 O r79_6.1 r79_6.2).bind fun r80_7=>
 f29_L2 G lo c d f m r80_7.1 k (DV.ptr (List.length σ) 0) (DV.p (PV.int IntKind.i64 (2))) r80_7.2
 )
 )
 (
 (Qg CC (DV.fn 60 []) [m,O] σ).bind fun dm=>
 (store PP lo 33 f dm σ).bind fun σ10=>
 (Vy PP 33 f σ10).bind fun v0=>
 some (v0,σ10)
 ):=(Ql G hG).trans (by kernel_rfl)
theorem f29_J0_eq (G:Qe) (lo:Nat) (c d f m O k:DV) (σ:Qa):f29_J0 G lo c d f m O k σ =
 (binOp PP .add 3 k I1).bind fun ae=>
 f29_L1 G lo c d f m O ae σ:=by kernel_rfl
theorem f29_L2_gen (G:Qe) (hG:Qo G) (lo:Nat) (N0:Qp->Qa->Option (DV×Qa)) (c d f m O k g i:DV) (σ:Qa):Qm G PP (pol 29) CC lo (.loop c29_50) a29_49 (Z::Z::c::d::f::m::O::Z::k::g::i::zn 95 []) σ
 (Qf 4 a29_48 (Qf 3 a29_33 (VL N0 (seqC G PP (pol 29) CC lo c29_60 a29_60 (QN G PP (pol 29) CC lo UG UH (Qf 2 UU (seqC G PP (pol 29) CC lo c29_61 a29_61 (finR PP Tryz.f29.results.toList)))))))) =
 (fieldAddr PP 54 d 0).bind fun n=>
 (load PP 22 n σ).bind fun cr=>
 (indexAddr PP 22 cr k).bind fun bt=>
 (load PP 3 bt σ).bind fun bn=>
 (binOp PP .leq 3 i bn).bind fun bw=>
 Qh bw
 (
 (fieldAddr PP 69 g 0).bind fun ct=>
 (load PP 3 ct σ).bind fun ci=>
 (Qg CC (DV.fn 59 []) [ci,i] σ).bind fun cb=>
 (fieldAddr PP 69 g 0).bind fun cj=>
 (load PP 3 cj σ).bind fun c8=>
 (binOp PP .sub 3 i I1).bind fun dh=>
 (Qg CC (DV.fn 59 []) [c8,dh] σ).bind fun df=>
 (build PP 109 [(0,cb),(1,df),(2,(DV.p (PV.int IntKind.i64 (11))))]).bind fun bl=>
 (buildSlice PP none 106 1 [(0,bl)] σ).bind fun r101_8=>
 (append PP lo false 106 106 O r101_8.1 r101_8.2).bind fun r102_9=>
 (binOp PP .add 3 i I1).bind fun ch=>
 Qm G PP (pol 29) CC lo (.loop c29_50) a29_49 (Z::Z::c::d::f::m::r102_9.1::Z::k::g::ch::zn 95 []) r102_9.2 (Qf 4 a29_48 (Qf 3 a29_33 (VL N0 (seqC G PP (pol 29) CC lo c29_60 a29_60 (QN G PP (pol 29) CC lo UG UH (Qf 2 UU (seqC G PP (pol 29) CC lo c29_61 a29_61 (finR PP Tryz.f29.results.toList))))))))
 )
 (
 N0 (f29_J0_fr c d f m O k) σ
 ):=(Ql G hG).trans (by kernel_rfl)
theorem f29_L2_eq (G:Qe) (hG:Qo G) (lo:Nat) (c d f m O k g i:DV) (σ:Qa):f29_L2 G lo c d f m O k g i σ =
 (fieldAddr PP 54 d 0).bind fun n=>
 (load PP 22 n σ).bind fun cr=>
 (indexAddr PP 22 cr k).bind fun bt=>
 (load PP 3 bt σ).bind fun bn=>
 (binOp PP .leq 3 i bn).bind fun bw=>
 Qh bw
 (
 (fieldAddr PP 69 g 0).bind fun ct=>
 (load PP 3 ct σ).bind fun ci=>
 (Qg CC (DV.fn 59 []) [ci,i] σ).bind fun cb=>
 (fieldAddr PP 69 g 0).bind fun cj=>
 (load PP 3 cj σ).bind fun c8=>
 (binOp PP .sub 3 i I1).bind fun dh=>
 (Qg CC (DV.fn 59 []) [c8,dh] σ).bind fun df=>
 (build PP 109 [(0,cb),(1,df),(2,(DV.p (PV.int IntKind.i64 (11))))]).bind fun bl=>
 (buildSlice PP none 106 1 [(0,bl)] σ).bind fun r101_8=>
 (append PP lo false 106 106 O r101_8.1 r101_8.2).bind fun r102_9=>
 (binOp PP .add 3 i I1).bind fun ch=>
 f29_L2 G lo c d f m r102_9.1 k g ch r102_9.2
 )
 (
 f29_J0 G lo c d f m O k σ
 ):=by
 have h:=f29_L2_gen (N0:=(seqC G PP (pol 29) CC lo c29_60 a29_60 (QN G PP (pol 29) CC lo UG UH (Qf 2 UU (seqC G PP (pol 29) CC lo c29_61 a29_61 (finR PP Tryz.f29.results.toList))))) .normal) G hG lo c d f m O k g i σ
 simp only [WG] at h
 exact h
theorem F29_eq (G:Qe) (lo:Nat) (a b:DV) (σ:Qa):F29 G lo a b σ =
 (boxV a).bind fun z2=>
 (boxV b).bind fun z3=>
 (Qx PP 33).bind fun z4=>
 f29_L0 G lo (DV.ptr (List.length σ) 0) (DV.ptr (List.length (σ++[Row.mix z2])) 0) (DV.ptr (List.length ((σ++[Row.mix z2])++[Row.mix z3])) 0) (DV.p PV.nilsl) (DV.p PV.nilsl) I0 (((σ++[Row.mix z2])++[Row.mix z3])++[Row.mix z4]):=by kernel_rfl
theorem F29_call {lo:Nat} {a b:DV} (h:F29 Qb lo a b σ=some r):CC lo 29 [a,b] σ=some r:=
 callL_run Tryz.func29 (by decide +kernel) rfl (by decide +kernel) h
def c30_0:Code:=Qs Tryz.f30
def a30_0:Ann:=(pol 30).ann
def a30_9:Ann:=right (left (right (right (right a30_0))))
def a30_10:Ann:=left a30_9
def c30_11:Code:=fstC (fstC (sndC (fstC (sndC (sndC (sndC c30_0))))))
def a30_18:Ann:=left (right (left a30_10))
def a30_22:Ann:=right (left (left a30_18))
def a30_23:Ann:=left a30_22
def c30_24:Code:=fstC (fstC (sndC (fstC (fstC (fstC (sndC c30_11))))))
def c30_34:Code:=sndC (fstC (fstC (sndC c30_11)))
def a30_34:Ann:=right (left a30_18)
def c30_35:Code:=sndC (sndC c30_11)
def a30_35:Ann:=right (right (left a30_10))
def c30_36:Code:=sndC (sndC (sndC (sndC c30_0)))
def a30_36:Ann:=right (right (right (right a30_0)))
def f30_L0 (c d f H k g:DV) (σ:Qa):RS:=
 Qm G PP (pol 30) CC lo (.loop c30_11) a30_10 (Z::Z::c::d::f::Z::Z::H::k::g::zn 56 []) σ
 (Qf 0 a30_9 (seqC G PP (pol 30) CC lo c30_36 a30_36 (finR PP Tryz.f30.results.toList)))
def f30_L1 (c d f H k g i:DV) (σ:Qa):RS:=
 Qm G PP (pol 30) CC lo (.loop c30_24) a30_23 (Z::Z::c::d::f::Z::Z::H::k::g::i::zn 55 []) σ
 (Qf 2 a30_22 (seqC G PP (pol 30) CC lo c30_34 a30_34 (Qf 1 a30_18 (seqC G PP (pol 30) CC lo c30_35 a30_35 (QN G PP (pol 30) CC lo c30_11 a30_10 (Qf 0 a30_9 (seqC G PP (pol 30) CC lo c30_36 a30_36 (finR PP Tryz.f30.results.toList))))))))
def F30 (a b c:DV) (σ:Qa):RS:=
 Qm G PP (pol 30) CC lo c30_0 a30_0 (a::b::c::zn 63 []) σ (finR PP Tryz.f30.results.toList)
theorem f30_L0_eq (G:Qe) (hG:Qo G) (lo:Nat) (c d f H k g:DV) (σ:Qa):f30_L0 G lo c d f H k g σ =
 (len PP 22 c σ).bind fun o=>
 (binOp PP .lss 3 g o).bind fun z=>
 Qh z
 (
 (fieldAddr PP 54 f 0).bind fun ac=>
 (load PP 22 ac σ).bind fun U=>
 (load PP 25 d σ).bind fun au=>
 (binOp PP .sub 3 g I1).bind fun B=>
 (indexAddr PP 22 c B).bind fun I=>
 (load PP 3 I σ).bind fun ae=>
 (indexAddr PP 22 c g).bind fun aj=>
 (load PP 3 aj σ).bind fun aq=>
 (Qg CC (DV.fn 63 []) [au,ae,aq] σ).bind fun Y=>
 (indexAddr PP 22 U Y).bind fun L=>
 (load PP 3 L σ).bind fun C=>
 f30_L1 G lo c d f H k g C σ
 )
 (
 some (k,σ)
 ):=(Ql G hG).trans (by kernel_rfl)
theorem f30_L1_eq (G:Qe) (hG:Qo G) (lo:Nat) (c d f H k g i:DV) (σ:Qa):f30_L1 G lo c d f H k g i σ =
 (binOp PP .geq 3 i I1).bind fun y=>
 Qh y
 (
 (load PP 33 H σ).bind fun t=>
 (binOp PP .sub 3 g I1).bind fun ak=>
 (indexAddr PP 22 c ak).bind fun ar=>
 (load PP 3 ar σ).bind fun az=>
 (Qg CC (DV.fn 64 []) [t,az,i] σ).bind fun W=>
 (buildSlice PP none 22 1 [(0,W)] σ).bind fun r54_3=>
 (append PP lo false 22 22 k r54_3.1 r54_3.2).bind fun r55_4=>
 (binOp PP .sub 3 i I1).bind fun P=>
 f30_L1 G lo c d f H r55_4.1 g P r55_4.2
 )
 (
 (load PP 33 H σ).bind fun bp=>
 (indexAddr PP 22 c g).bind fun bb=>
 (load PP 3 bb σ).bind fun bh=>
 (Qg CC (DV.fn 64 []) [bp,bh,I0] σ).bind fun bm=>
 (buildSlice PP none 22 1 [(0,bm)] σ).bind fun r63_5=>
 (append PP lo false 22 22 k r63_5.1 r63_5.2).bind fun r64_6=>
 (binOp PP .add 3 g I1).bind fun A=>
 f30_L0 G lo c d f H r64_6.1 A r64_6.2
 ):=(Ql G hG).trans (by kernel_rfl)
theorem F30_eq (G:Qe) (lo:Nat) (a b c:DV) (σ:Qa):F30 G lo a b c σ =
 (boxV a).bind fun z3=>
 (boxV b).bind fun z4=>
 (load PP 25 (DV.ptr (List.length σ) 0) ((σ++[Row.mix z3])++[Row.mix z4])).bind fun j=>
 (load PP 54 (DV.ptr (List.length (σ++[Row.mix z3])) 0) ((σ++[Row.mix z3])++[Row.mix z4])).bind fun l=>
 (Qg CC (DV.fn 29 []) [j,l] ((σ++[Row.mix z3])++[Row.mix z4])).bind fun q=>
 (Qx PP 33).bind fun z7=>
 (store PP lo 33 (DV.ptr (List.length ((σ++[Row.mix z3])++[Row.mix z4])) 0) q (((σ++[Row.mix z3])++[Row.mix z4])++[Row.mix z7])).bind fun σ1=>
 (load PP 33 (DV.ptr (List.length ((σ++[Row.mix z3])++[Row.mix z4])) 0) σ1).bind fun w=>
 (indexAddr PP 22 c I0).bind fun ah=>
 (load PP 3 ah σ1).bind fun R=>
 (Qg CC (DV.fn 64 []) [w,R,I0] σ1).bind fun af=>
 (buildSlice PP none 22 1 [(0,af)] σ1).bind fun r19_2=>
 f30_L0 G lo c (DV.ptr (List.length σ) 0) (DV.ptr (List.length (σ++[Row.mix z3])) 0) (DV.ptr (List.length ((σ++[Row.mix z3])++[Row.mix z4])) 0) r19_2.1 I1 r19_2.2:=by kernel_rfl
theorem F30_call {lo:Nat} {a b c:DV} (h:F30 Qb lo a b c σ=some r):CC lo 30 [a,b,c] σ=some r:=
 callL_run Tryz.func30 (by decide +kernel) rfl (by decide +kernel) h
end
end Go.D
end
/- Chapter 22: the moves of a stuttering variable. -/
section
set_option linter.unusedVariables false
set_option linter.unusedSimpArgs false
namespace Go.D.StS
open Go.D.Srt
def eCs (c:OI):List DV:=[.p (eSl c)]
theorem ZZ (x:DV):fieldAddr PP 54 x 0=QL x 0:=Eq.trans (by kernel_rfl) rfl
theorem load54 (x:DV) (σ:Qa):load PP 54 x σ=(Wl σ 1 x).map .agg:=Eq.trans (by kernel_rfl) rfl
theorem zero54:Qx PP 54=some [.p .nilsl]:=Eq.trans (by kernel_rfl) rfl
theorem UF {σ:Qa} {r:Nat} {c:OI} (h:σ[r]?=some (.mix (eCs c))):load PP 54 (.ptr r 0) σ=some (.agg (eCs c)):=by
 rw [load54,QI (vs:=eCs c) h rfl (by simp [eCs])]; rfl
theorem cs_0 {σ:Qa} {r:Nat} {c:OI} (h:σ[r]?=some (.mix (eCs c))):ZX (.ptr r 0) σ=some (.p (eSl c)):=Qc h rfl
theorem WF (c:OI):boxV (.agg (eCs c))=some (eCs c):=rfl
theorem VI (c:OI):view (.agg (eCs c))=.agg (eCs c):=by simp [view,Zw,eCs,ZO]
def stS (g:Gr) (c:OI) (x:E) (i:Nat):List Edg:=
 if (x.2=1/\(L c).getD i 0>0)\/(x.2=0/\(L c).getD i 0=0) then [⟨(gE (L g.edges) i).t,0,(gE (L g.edges) i).a⟩]
 else if x.2=0 then [⟨x.1,(L c).getD i 0,11⟩] else []
def mvS (g:Gr) (c:OI) (x:E):List Edg:=if x.2>1 then [⟨x.1,x.2-1,11⟩] else (frN (L g.edges) x.1 (L g.edges).length).flatMap (stS g c x)
theorem ldRow {σ:Qa} {r:Nat} {e:Edg} (h:σ[r]?=some (.mix (edgD e))):load PP 141 (.ptr r 0) σ=some (.agg (edgD e)):=by
 rw [load141,QI (vs:=edgD e) h rfl (by simp [edgD])]; rfl
section
variable {g : Gr} {c : OI} {x : E} {fr : List Nat} {B g0 c0 b : Nat}
theorem L95 (hfr:∀ j∈fr,j<(L g.edges).length/\j<(L c).length/\0<=(L c).getD j 0) (hx:x.2=0\/x.2=1) (hl:fr.length<=1000) :
  ∀ (d k:Nat) (y:DV) (σ:Qa) (acc:List Edg),fr.length-k=d->k<=fr.length->acc=(fr.take k).flatMap (stS g c x)->acc.length<=k->σ[g0]?=some (.mix (eGr g))->σ[c0]?=some (.mix (eCs c))->σ[b]?=some (.mix (cel x))->B<=σ.length->Out σ B 3 acc.length (Zd acc) y->
  ∃ y' σ',f95_L0 Qb B (.ptr g0 0) (.ptr c0 0) (.ptr b 0) y (.p (eSl (oI (intL fr)))) (N fr.length) (N k) σ=some (y',σ')/\Out σ' B 3 (fr.flatMap (stS g c x)).length (Zd (fr.flatMap (stS g c x))) y'
 | 0,k,y,σ,acc,hd,hk,hac,hal,w1,w2,w3,wB,ho=>by
  have e:k=fr.length:=by omega
  subst e
  rw [List.take_length] at hac
  refine ⟨y,σ,?_,by rw [<-hac]; exact ho⟩
  rw [f95_L0_eq Qb rfl]
  simp (disch:=omega) only [N,Qn,ltF,gG]
 | d+1,k,y,σ,acc,hd,hk,hac,hal,w1,w2,w3,wB,ho=>by
  have hkl:k<fr.length:=by omega
  obtain ⟨a1,a2,a3⟩:=hfr _ (List.getElem_mem hkl)
  have etk:(fr.take (k+1)).flatMap (stS g c x)=acc++stS g c x fr[k]:=by
   rw [List.take_succ_eq_append_getElem hkl,List.flatMap_append,<-hac]; simp
  generalize hj:fr[k]=j at *
  have ix:indexAddr PP 22 (.p (eSl (oI (intL fr)))) (.p (.int .i64 (k:Nat)))=some (.pptr (Qr (intL fr)) k):=by
   have:=ZS (o:=oI (intL fr)) (i:=k) (by rw [L_oI,intL_len]; exact hkl)
   rwa [L_oI] at this
  have ldk:ZX (.pptr (Qr (intL fr)) k) σ=some (.p (.int .i64 (j:Nat))):=by
   have:=ZG (l:=intL fr) (i:=k) (by rw [intL_len]; exact hkl) σ
   rw [this]
   simp [intL,hj]
  have ixe:=Uq (o:=g.edges) (i:=j) a1
  have ixc:=ZS (o:=c) (i:=j) a2
  have hsn:=stN141 (σ:=σ) (lo:=B) ⟨(gE (L g.edges) j).t,0,(gE (L g.edges) j).a⟩ wB
  have v1:(σ++[Row.mix (edgD ⟨(gE (L g.edges) j).t,0,(gE (L g.edges) j).a⟩)])[g0]?=some (.mix (eGr g)):=QM w1
  have v2:(σ++[Row.mix (edgD ⟨(gE (L g.edges) j).t,0,(gE (L g.edges) j).a⟩)])[c0]?=some (.mix (eCs c)):=QM w2
  have v3:(σ++[Row.mix (edgD ⟨(gE (L g.edges) j).t,0,(gE (L g.edges) j).a⟩)])[b]?=some (.mix (cel x)):=QM w3
  have v4:(σ++[Row.mix (edgD ⟨(gE (L g.edges) j).t,0,(gE (L g.edges) j).a⟩)])[σ.length]?=some (.mix (edgD ⟨(gE (L g.edges) j).t,0,(gE (L g.edges) j).a⟩)):=QB
  have vB:B<=(σ++[Row.mix (edgD ⟨(gE (L g.edges) j).t,0,(gE (L g.edges) j).a⟩)]).length:=by rw [List.length_append]; omega
  have vo:=Out.snocM ho (.mix (edgD ⟨(gE (L g.edges) j).t,0,(gE (L g.edges) j).a⟩))
  have ldc:=QC (l:=L c) a2 (σ++[Row.mix (edgD ⟨(gE (L g.edges) j).t,0,(gE (L g.edges) j).a⟩)])
  simp only [pI] at ldc
  have lx0:=Qc (off:=0) v3 (v:=.p (.int .i64 x.1)) rfl
  have lx1:=Qc (off:=1) v3 (v:=.p (.int .i64 x.2)) rfl
  have lc0:=cs_0 v2
  have lr:=ldRow v4
  have lg0:=Qc (off:=2) w1 (v:=.p (eEs g.edges)) rfl
  generalize hσ1:σ++[Row.mix (edgD ⟨(gE (L g.edges) j).t,0,(gE (L g.edges) j).a⟩)]=σ1 at *
  have push:∀ e:Edg,stS g c x j=[e]->∃ y1 σ2,append PP B false 138 138 y (.p (.sl true 1 (eEdg e))) σ1=some (y1,σ2)/\∃ y' σ',f95_L0 Qb B (.ptr g0 0) (.ptr c0 0) (.ptr b 0) y1 (.p (eSl (oI (intL fr)))) (N fr.length) (N (k+1)) σ2=some (y',σ')/\Out σ' B 3 (fr.flatMap (stS g c x)).length (Zd (fr.flatMap (stS g c x))) y':=fun e he=>by
   obtain ⟨y1,σ2,p1,p2,p3,p4⟩:=Out.pushG (lo:=B) (vs:=eEdg e) src138 u138 s141 bytes141 Uo rfl (by decide) (by decide) (by decide) rfl vo (by omega) vB (Nat.le_refl _)
   rw [eEdgs_snoc] at p2
   have km:∀ (j:Nat) (cs:List DV),σ1[j]?=some (Row.mix cs)->σ2[j]?=some (Row.mix cs):=fun j cs e=>Others.mix p3 vo e (fun v e=>by cases e)
   have hlen:B<=σ2.length:=by
    rcases p2.2 with ⟨e,_⟩ | ⟨_,r,ver,_,e,e2⟩
    ·omega
    ·have:=QT e; omega
   have hla:(acc++[e]).length=acc.length+1:=by simp
   rw [<-hla] at p2
   obtain ⟨y',σ',r1,r2⟩:=L95 hfr hx hl d (k+1) y1 σ2 (acc++[e]) (by omega) (by omega) (by rw [etk,he]) (by omega) (km _ _ v1) (km _ _ v2) (km _ _ v3) hlen p2
   exact ⟨y1,σ2,p1,y',σ',r1,r2⟩
  by_cases hA:(x.2=1/\(L c).getD j 0>0)\/(x.2=0/\(L c).getD j 0=0)
  ·obtain ⟨y1,σ2,p1,y',σ',r1,r2⟩:=push ⟨(gE (L g.edges) j).t,0,(gE (L g.edges) j).a⟩ (by unfold stS; rw [if_pos hA])
   refine ⟨y',σ',?_,r2⟩
   rw [<-r1,f95_L0_eq Qb rfl]
   rcases hA with ⟨h1,h2⟩ | ⟨h1,h2⟩
   ·simp (maxSteps:=1000000) (disch:=omega) only [N,Qn,ltT,gG,ix,QF,ldk,Zg,gP,Zc,lg0,ixe,VN,VD,ldEt a1,ldEa a1,Uw,bld141,Uo,hsn,hσ1,ZZ,QO,lc0,ixc,ldc,Uh,lx1,QV,eqT h1,Zh,gtT h2,f95_J0_eq,lr,bs138,p1,f95_J1_eq,add1]
   ·have h3:¬ x.2=1:=by omega
    simp (maxSteps:=1000000) (disch:=omega) only [N,Qn,ltT,gG,ix,QF,ldk,Zg,gP,Zc,lg0,ixe,VN,VD,ldEt a1,ldEa a1,Uw,bld141,Uo,hsn,hσ1,ZZ,QO,lc0,ixc,ldc,Uh,lx1,QV,eqF h3,eqT h1,eqT h2,f95_J0_eq,lr,bs138,p1,f95_J1_eq,add1]
  ·rcases hx with h1 | h1
   ·have h2:¬ (L c).getD j 0=0:=fun hh=>hA (.inr ⟨h1,hh⟩)
    have h3:¬ x.2=1:=by omega
    obtain ⟨y1,σ2,p1,y',σ',r1,r2⟩:=push ⟨x.1,(L c).getD j 0,11⟩ (by unfold stS; rw [if_neg hA,if_pos h1])
    refine ⟨y',σ',?_,r2⟩
    rw [<-r1,f95_L0_eq Qb rfl]
    simp (maxSteps:=1000000) (disch:=omega) only [N,Qn,ltT,gG,ix,QF,ldk,Zg,gP,Zc,lg0,ixe,VN,VD,ldEt a1,ldEa a1,Uw,bld141,Uo,hsn,hσ1,ZZ,QO,lc0,ixc,ldc,fa102_0,Uh,lx0,lx1,QV,eqF h3,eqT h1,eqF h2,f95_J0_eq,bs138,p1,f95_J1_eq,add1]
   ·have h2:¬ (L c).getD j 0>0:=fun hh=>hA (.inl ⟨h1,hh⟩)
    have h3:¬ x.2=0:=by omega
    have es:stS g c x j=[]:=by unfold stS; rw [if_neg hA,if_neg h3]
    obtain ⟨y',σ',r1,r2⟩:=L95 hfr (.inr h1) hl d (k+1) y σ1 acc (by omega) (by omega) (by rw [etk,es,List.append_nil]) (by omega) v1 v2 v3 vB vo
    refine ⟨y',σ',?_,r2⟩
    rw [<-r1,f95_L0_eq Qb rfl]
    simp (maxSteps:=1000000) (disch:=omega) only [N,Qn,ltT,gG,ix,QF,ldk,Zg,gP,Zc,lg0,ixe,VN,VD,ldEt a1,ldEa a1,Uw,bld141,Uo,hsn,hσ1,ZZ,QO,lc0,ixc,ldc,fa102_0,Uh,lx0,lx1,QV,eqT h1,Zh,gtF h2,eqF h3,f95_J0_eq,f95_J1_eq,add1]
end
theorem S95 {g:Gr} {c:OI} {x:E} {σ:Qa} {g0 c0:Nat} (w1:σ[g0]?=some (.mix (eGr g))) (w2:σ[c0]?=some (.mix (eCs c))) (hl:(L g.edges).length<=1000) (hn:(L c).length=(L g.edges).length) (hc:∀ j,j<(L c).length->0<=(L c).getD j 0) (hx:0<=x.2/\x.2<=7) :
  Qv CC 95 [val x,.ptr g0 0,.ptr c0 0] σ=some (.p (eEs (oE (mvS g c x)))):=by
 have v1:(σ++[Row.mix (cel x)])[g0]?=some (.mix (eGr g)):=QM w1
 have v2:(σ++[Row.mix (cel x)])[c0]?=some (.mix (eCs c)):=QM w2
 have v3:(σ++[Row.mix (cel x)])[σ.length]?=some (.mix (cel x)):=QB
 have lx0:=Qc (off:=0) v3 (v:=.p (.int .i64 x.1)) rfl
 have lx1:=Qc (off:=1) v3 (v:=.p (.int .i64 x.2)) rfl
 by_cases h1:x.2>1
 ·have e:mvS g c x=[⟨x.1,x.2-1,11⟩]:=by unfold mvS; rw [if_pos h1]
  have sb:binOp PP .sub 3 (.p (.int .i64 x.2)) (.p (.int .i64 1))=some (.p (.int .i64 (x.2-1))):=by rw [WD,QE (by omega) (by omega)]
  refine Wp (by simp [view,Zw,val,cel,Zs]) (by simp [Zt,ZT]) (F95_call (r:=(.p (.sl true 1 (eEdg ⟨x.1,x.2-1,11⟩)),σ++[Row.mix (cel x)])) ?_) (by rw [e]; rfl)
  rw [F95_eq]
  simp (disch:=omega) only [box_val,gG,fa102_0,Uh,gP,QF,lx0,lx1,Zh,gtT h1,sb,Uw,bld141,bs138]
 ·have e:mvS g c x=(frN (L g.edges) x.1 (L g.edges).length).flatMap (stS g c x):=by unfold mvS; rw [if_neg h1]
  have hfl:=frN_len (L g.edges) x.1 (L g.edges).length
  have hmem:∀ j∈frN (L g.edges) x.1 (L g.edges).length,j<(L g.edges).length:=fun j hj=>(mem_frN.1 hj).1
  obtain ⟨y,σ',e1,o1⟩:=L95 (g:=g) (c:=c) (x:=x) (fr:=frN (L g.edges) x.1 (L g.edges).length) (B:=σ.length) (g0:=g0) (c0:=c0) (b:=σ.length) (fun j hj=>⟨hmem j hj,by rw [hn]; exact hmem j hj,hc j (by rw [hn]; exact hmem j hj)⟩) (by omega) (by omega)
   _ 0 (.p .nilsl) _ [] rfl (Nat.zero_le _) rfl (Nat.le_refl 0) v1 v2 v3 (by simp) Out.zero
  refine Wp (by simp [view,Zw,val,cel,Zs]) (by simp [Zt,ZT]) (F95_call (r:=(y,σ')) ?_) (by rw [e]; exact twAll_oE o1)
  have hld:load PP 25 (.ptr g0 0) (σ++[Row.mix (cel x)])=some (.agg (eGr g)):=by
   rw [UN,QI (vs:=eGr g) v1 rfl (by simp [eGr])]; rfl
  have hlen:len PP 22 (.p (eSl (oI (intL (frN (L g.edges) x.1 (L g.edges).length))))) (σ++[Row.mix (cel x)])=some (N (frN (L g.edges) x.1 (L g.edges).length).length):=by
   rw [QZ,L_oI,intL_len]
  rw [F95_eq]
  simp (disch:=omega) only [box_val,gG,fa102_0,Uh,gP,QF,lx0,lx1,Zh,gtF h1,hld,S84 hl,hlen]
  exact e1
end Go.D.StS
end
/- Chapter 22: stuttering variables as arguments. -/
section
set_option linter.unusedVariables false
set_option maxRecDepth 100000
namespace Go.D
open Go.ChangeShapes Go.WideShapes Go.ChangeAt Go.RowKit
open Go.D.StS (eCs)
section
variable {H : Type} {enc : TypeId × Value -> H} {W : World} {hd : Bool} {r : Reach} {b0 : Nat} {v : Value} {d : DataW H} {ps : List MemPlace}
theorem read_cs (hok:Value.okWide PP W r b0 54 v) (h:DataW.Trod enc PP W 0 (fun _=>true) hd 54 v d ps):∃ c:OI,VRel (fun _ _=>none) (memOf W) (.agg (eCs c)) v:=by
 obtain ⟨c,h1,h2⟩:=read_struct 8 Go.Proofs.Tryz.underlying54 (by kernel_rfl) hok h
 have h3:=h1.inv_struct Go.Proofs.Tryz.underlying54
 obtain ⟨a1,b1,k1,h5,rfl⟩:=PlainL.inv_cons h3
 obtain ⟨p,rfl⟩:=dec22 k1
 obtain rfl:=PlainL.inv_nil h5
 exact ⟨p,h2⟩
end
end Go.D
end
/- Closed calls, worked out by the kernel one by one. -/
section
set_option linter.unusedVariables false
set_option maxRecDepth 100000
namespace Go.D
mutual
def eqPV:PV->PV->Bool
 | .bool a,.bool b=>a==b
 | .int k n,.int k' m=>k==k'&&n==m
 | .nilsl,.nilsl=>true
 | .sl a n cs,.sl b m ds=>a==b&&n==m&&eqPVs cs ds
 | _,_=>false
def eqPVs:List PV->List PV->Bool
 | [],[]=>true
 | a::as',b::bs=>eqPV a b&&eqPVs as' bs
 | _,_=>false
end
mutual
theorem eqPV_eq:∀ (a b:PV),eqPV a b=true->a=b
 | .bool a,.bool b,h=>by simp [eqPV] at h; rw [h]
 | .int k n,.int k' m,h=>by
  simp [eqPV] at h
  rw [h.1,h.2]
 | .nilsl,.nilsl,h=>rfl
 | .sl a n cs,.sl b m ds,h=>by
  simp [eqPV] at h
  rw [h.1.1,h.1.2,eqPVs_eq cs ds h.2]
 | .bool _,.int ..,h | .bool _,.str _,h | .bool _,.nilptr,h | .bool _,.nilsl,h | .bool _,.nilmap,h | .bool _,.nilfn,h | .bool _,.niliface,h | .bool _,.sl ..,h=>by simp [eqPV] at h
 | .int ..,.bool _,h | .int ..,.str _,h | .int ..,.nilptr,h | .int ..,.nilsl,h | .int ..,.nilmap,h | .int ..,.nilfn,h | .int ..,.niliface,h | .int ..,.sl ..,h=>by simp [eqPV] at h
 | .nilsl,.bool _,h | .nilsl,.int ..,h | .nilsl,.str _,h | .nilsl,.nilptr,h | .nilsl,.nilmap,h | .nilsl,.nilfn,h | .nilsl,.niliface,h | .nilsl,.sl ..,h=>by simp [eqPV] at h
 | .sl ..,.bool _,h | .sl ..,.int ..,h | .sl ..,.str _,h | .sl ..,.nilptr,h | .sl ..,.nilsl,h | .sl ..,.nilmap,h | .sl ..,.nilfn,h | .sl ..,.niliface,h=>by simp [eqPV] at h
 | .str _,b,h | .nilptr,b,h | .nilmap,b,h | .nilfn,b,h | .niliface,b,h=>by cases b <;> simp [eqPV] at h
theorem eqPVs_eq:∀ (a b:List PV),eqPVs a b=true->a=b
 | [],[],h=>rfl
 | a::as',b::bs,h=>by
  simp [eqPVs] at h
  rw [eqPV_eq a b h.1,eqPVs_eq as' bs h.2]
 | [],_::_,h | _::_,[],h=>by simp [eqPVs] at h
end
def flatD:DV->Option (List (Nat×PV))
 | .p v=>some [(0,v)]
 | .agg cs=>some (cs.filterMap fun c=>match c with | .p v=>some (1,v) | _=>none)
 | _=>none
def eqD1:DV->DV->Bool
 | .p v,.p w=>eqPV v w
 | _,_=>false
def eqD1s:List DV->List DV->Bool
 | [],[]=>true
 | a::as',b::bs=>eqD1 a b&&eqD1s as' bs
 | _,_=>false
def eqD2:DV->DV->Bool
 | .agg cs,.agg ds=>eqD1s cs ds
 | a,b=>eqD1 a b
def eqD2s:List DV->List DV->Bool
 | [],[]=>true
 | a::as',b::bs=>eqD2 a b&&eqD2s as' bs
 | _,_=>false
def eqD:DV->DV->Bool
 | .tuple cs,.tuple ds=>eqD2s cs ds
 | a,b=>eqD2 a b
theorem eqD1_eq {a b:DV} (h:eqD1 a b=true):a=b:=by
 unfold eqD1 at h
 split at h
 ·rw [eqPV_eq _ _ h]
 ·exact absurd h (by simp)
theorem eqD1s_eq:∀ {a b:List DV},eqD1s a b=true->a=b
 | [],[],h=>rfl
 | a::as',b::bs,h=>by
  simp only [eqD1s,Bool.and_eq_true] at h
  rw [eqD1_eq h.1,eqD1s_eq h.2]
 | [],_::_,h=>absurd h (by simp [eqD1s])
 | _::_,[],h=>absurd h (by simp [eqD1s])
theorem eqD2_eq {a b:DV} (h:eqD2 a b=true):a=b:=by
 unfold eqD2 at h
 split at h
 ·rw [eqD1s_eq h]
 ·exact eqD1_eq h
theorem eqD2s_eq:∀ {a b:List DV},eqD2s a b=true->a=b
 | [],[],h=>rfl
 | a::as',b::bs,h=>by
  simp only [eqD2s,Bool.and_eq_true] at h
  rw [eqD2_eq h.1,eqD2s_eq h.2]
 | [],_::_,h=>absurd h (by simp [eqD2s])
 | _::_,[],h=>absurd h (by simp [eqD2s])
theorem eqD_eq {a b:DV} (h:eqD a b=true):a=b:=by
 unfold eqD at h
 split at h
 ·rw [eqD2s_eq h]
 ·exact eqD2_eq h
def UW (P:Program) (pol:FuncId->FPol) (k:Nat) (f:FuncId) (args:List DV) (r:DV):Bool:=
 match callK P pol k 0 f args [] with
 | some (v,σ)=>match Ze 0 σ v with
  | some v'=>eqD v' r
  | none=>false
 | none=>false
theorem WS {k:Nat} {f:FuncId} {args:List DV} {r:DV} {σ:Qa} (h:UW PP pol k f args r=true) (h1:args.map view=args) (h2:args.all Zt=true):Qv CC f args σ=some r:=by
 unfold UW at h
 split at h
 ·rename_i v σ' hc
  split at h
  ·rename_i v' ht
   exact Qk h1 h2 (callL_at hc) (ht.trans (by rw [eqD_eq h]))
  ·exact absurd h (by simp)
 ·exact absurd h (by simp)
end Go.D
end
