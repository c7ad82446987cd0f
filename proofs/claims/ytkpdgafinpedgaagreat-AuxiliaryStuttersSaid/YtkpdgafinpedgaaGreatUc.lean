/- Policies of the functions: what is kept of temporaries, which calls are plain, which slices are rows. -/
import Derived.Test.YtkpdgafinpedgaaGreatUb
import Derived.Test.YtkpdgafinpedgaaGreatProg
import Derived.KernelRfl
import Derived.Test.YtkpdgafinpedgaaGreatUa
import Derived.ProofKit
import Derived.OpenShut
import Derived.WideShapes
import Derived.Test.YtkpdgafinpedgaaGreatRows
import Derived.SizedLaws
section
namespace Go.D
noncomputable def zn (n:Nat) (l:List DV):List DV:=Nat.rec l (fun _ t=>.undef::t) n
noncomputable def mk (n b:Nat):List Bool:=Nat.rec (motive:=fun _=>Nat->List Bool) (fun _=>[]) (fun _ ih b=>Nat.beq (b % 2) 1::ih (b / 2)) n b
abbrev sq (a:Ann):Ann:=.seq .nil a
abbrev I0:DV:=.p (.int .i64 0)
abbrev I1:DV:=.p (.int .i64 1)
abbrev RS:Type:=Option (DV×Qa)
def Gp (G:Qe) {β:Type} (x:DV) (w:Bool) (m:Option DV) (σ:Qa) (K:DV->Qa->Option β):Option β:=G β x w (m.bind fun v=>some (v,σ)) σ K
theorem ZB (G:Qe) {β:Type} (x:DV) (w:Bool) (m:Option DV) (σ:Qa) (K:DV->Qa->Option β):Gp G x w m σ K=G β x w (m.bind fun v=>some (v,σ)) σ K:=Eq.trans rfl rfl
noncomputable abbrev PP:Program:=Go.Proofs.Tryz.prog
noncomputable def pol3:FPol:={ ann:=.nil }
noncomputable def pol4:FPol:={ ann:=.nil }
noncomputable def pol5:FPol:={ ann:=.nil }
noncomputable def pol6:FPol:={ ann:=(sq (sq (sq (.seq (sq (.keep (mk 4 12) (.keep (mk 6 44) (sq (.seq (.keep (mk 6 44) .nil) .nil))))) (sq (sq (sq (.seq (sq (.keep (mk 0 0) (.keep (mk 9 324) (sq (.seq (.keep (mk 9 324) (sq (.keep (mk 9 324) (.keep (mk 10 836) (sq (.seq (.keep (mk 10 836) (sq (.seq (sq (.keep (mk 11 1860) (.keep (mk 12 3908) (sq (.seq (.keep (mk 12 3908) .nil) .nil))))) .nil))) .nil)))))) .nil))))) .nil)))))))) }
noncomputable def pol7:FPol:={ ann:=(sq (sq (sq (sq (sq (sq (sq (sq (.seq (sq (.keep (mk 13 5140) (.keep (mk 14 13332) (sq (.seq (.keep (mk 14 13332) .nil) .nil))))) (.seq (sq (.keep (mk 13 4112) (.keep (mk 15 21524) (sq (.seq (.keep (mk 15 21524) (sq (.seq (sq (.keep (mk 16 50196) (.keep (mk 17 119828) (sq (.seq (.keep (mk 17 119828) .nil) .nil))))) .nil))) .nil))))) (sq (.seq (sq (.keep (mk 19 262160) (.keep (mk 20 790544) (sq (.seq (.keep (mk 20 790544) .nil) .nil))))) .nil)))))))))))) }
noncomputable def pol8:FPol:={ ann:=.nil }
noncomputable def pol9:FPol:={ ann:=.nil,plain:=[28] }
noncomputable def pol10:FPol:={ ann:=.nil }
noncomputable def pol11:FPol:={ ann:=(sq (sq (.seq (sq (.keep (mk 0 0) (.keep (mk 4 9) (sq (.seq (.keep (mk 4 9) .nil) .nil))))) .nil))) }
noncomputable def pol12:FPol:={ ann:=.nil,plain:=[19] }
noncomputable def pol13:FPol:={ ann:=.nil }
noncomputable def pol14:FPol:={ ann:=.nil }
noncomputable def pol15:FPol:={ ann:=(sq (sq (sq (sq (sq (sq (.seq (sq (.keep (mk 13 4096) (.keep (mk 56 63050394783193624) (sq (sq (.seq (.keep (mk 56 63050394783193624) .nil) .nil)))))) .nil))))))),plain:=[24] }
noncomputable def pol16:FPol:={ ann:=.nil }
noncomputable def pol17:FPol:={ ann:=(sq (sq (sq (.seq (sq (.keep (mk 0 0) (.keep (mk 4 10) (sq (.seq (.keep (mk 4 10) .nil) .nil))))) .nil)))) }
noncomputable def pol18:FPol:={ ann:=(sq (sq (.seq (sq (.keep (mk 4 12) (.keep (mk 6 44) (sq (.seq (.keep (mk 6 44) .nil) .nil))))) (sq (.seq (sq (.keep (mk 0 0) (.keep (mk 7 72) (sq (.seq (.keep (mk 7 72) (sq (sq (.keep (mk 7 72) (.keep (mk 8 200) (sq (.seq (.keep (mk 8 200) .nil) .nil))))))) .nil))))) .nil))))) }
noncomputable def pol19:FPol:={ ann:=.nil }
noncomputable def pol20:FPol:={ ann:=(sq (sq (sq (.seq (sq (.keep (mk 7 124) (.keep (mk 8 252) (sq (.seq (.keep (mk 8 252) .nil) .nil))))) (.seq (sq (.keep (mk 7 112) (.keep (mk 9 380) (sq (.seq (.keep (mk 9 380) (sq (.keep (mk 9 380) (.keep (mk 10 892) (sq (.seq (.keep (mk 10 892) .nil) .nil)))))) .nil))))) .nil))))) }
noncomputable def pol21:FPol:={ ann:=.nil }
noncomputable def pol22:FPol:={ ann:=(sq (sq (sq (.seq (sq (.keep (mk 3 6) (.keep (mk 6 38) (sq (.seq (.keep (mk 6 38) .nil) .nil))))) (sq (.seq (sq (.keep (mk 0 0) (.keep (mk 7 70) (sq (.seq (.keep (mk 7 70) .nil) .nil))))) .nil)))))) }
noncomputable def pol23:FPol:={ ann:=.nil }
noncomputable def pol24:FPol:={ ann:=(sq (sq (sq (sq (.seq (sq (.keep (mk 10 512) (.keep (mk 11 1948) (sq (.seq (.keep (mk 11 1948) .nil) .nil))))) .nil))))) }
noncomputable def pol25:FPol:={ ann:=.nil,plain:=[19] }
noncomputable def pol26:FPol:={ ann:=.nil }
noncomputable def pol27:FPol:={ ann:=(sq (sq (sq (sq (sq (.seq (sq (.keep (mk 12 2048) (.keep (mk 49 492581209246236) (sq (sq (.seq (.keep (mk 49 492581209246236) (sq (sq (.seq (sq (.keep (mk 49 492581209254428) (.keep (mk 49 492581209303580) (sq (.seq (.keep (mk 49 492581209303580) .nil) .nil))))) .nil)))) .nil)))))) .nil)))))),plain:=[25] }
noncomputable def pol28:FPol:={ ann:=(sq (sq (.seq (sq (.keep (mk 0 0) (.keep (mk 6 40) (sq (.seq (.keep (mk 6 40) .nil) .nil))))) .nil))) }
noncomputable def pol29:FPol:={ ann:=(sq (sq (sq (.seq (sq (.keep (mk 7 124) (.keep (mk 8 252) (sq (.seq (.keep (mk 8 252) .nil) .nil))))) (.seq (sq (.keep (mk 7 112) (.keep (mk 9 380) (sq (.seq (.keep (mk 9 380) (sq (sq (sq (sq (.keep (mk 9 380) (.keep (mk 11 1916) (sq (.seq (.keep (mk 11 1916) .nil) .nil))))))))) .nil))))) .nil))))) }
noncomputable def pol30:FPol:={ ann:=(sq (sq (sq (.seq (sq (.keep (mk 9 256) (.keep (mk 10 924) (sq (.seq (.keep (mk 10 924) (.seq (sq (.keep (mk 10 924) (.keep (mk 11 1948) (sq (.seq (.keep (mk 11 1948) .nil) .nil))))) .nil)) .nil))))) .nil)))) }
noncomputable def pol31:FPol:={ ann:=(sq (sq (sq (sq (.seq (sq (.keep (mk 9 256) (.keep (mk 26 58720518) (sq (sq (.seq (.keep (mk 26 58720518) .nil) .nil)))))) .nil))))) }
noncomputable def pol32:FPol:={ ann:=.nil }
noncomputable def pol33:FPol:={ ann:=(sq (sq (sq (.seq (sq (.keep (mk 2 2) (.keep (mk 4 10) (sq (.seq (.keep (mk 4 10) .nil) .nil))))) (.seq (sq (.keep (mk 0 0) (.keep (mk 5 18) (sq (.seq (.keep (mk 5 18) .nil) .nil))))) .nil))))) }
noncomputable def pol34:FPol:={ ann:=(sq (sq (.seq (sq (.keep (mk 0 0) (.keep (mk 6 35) (sq (.seq (.keep (mk 6 35) .nil) .nil))))) .nil))) }
noncomputable def pol35:FPol:={ ann:=(sq (sq (.seq (sq (.keep (mk 6 32) (.keep (mk 7 102) (sq (.seq (.keep (mk 7 102) .nil) .nil))))) .nil))) }
noncomputable def pol36:FPol:={ ann:=.nil }
noncomputable def pol37:FPol:={ ann:=(sq (sq (.seq (sq (.keep (mk 0 0) (.keep (mk 4 9) (sq (.seq (.keep (mk 4 9) .nil) .nil))))) .nil))) }
noncomputable def pol38:FPol:={ ann:=(sq (sq (sq (.seq (sq (.keep (mk 0 0) (.keep (mk 6 40) (sq (.seq (.keep (mk 6 40) (sq (.keep (mk 6 40) (.keep (mk 7 104) (sq (.seq (.keep (mk 7 104) .nil) .nil)))))) .nil))))) .nil)))) }
noncomputable def pol39:FPol:={ ann:=.nil }
noncomputable def pol40:FPol:={ ann:=(sq (sq (.seq (sq (.keep (mk 4 12) (.keep (mk 5 30) (sq (.seq (.keep (mk 5 30) .nil) .nil))))) .nil))) }
noncomputable def pol41:FPol:={ ann:=.nil }
noncomputable def pol42:FPol:={ ann:=(sq (sq (sq (sq (sq (sq (.seq (sq (.keep (mk 15 26656) (.seq (.keep (mk 0 0) (sq (sq (.keep (mk 0 0) (.keep (mk 69 442721857769029296176) (sq (sq (.seq (.keep (mk 69 442721857769029296176) (sq (sq (sq (.keep (mk 69 442721857769029296176) (.keep (mk 69 442721857769029492784) (sq (.seq (.keep (mk 69 442721857769029492784) .nil) .nil)))))))) .nil)))))))) .nil))) (sq (sq (.seq (sq (.keep (mk 19 262144) (.keep (mk 138 304893000761160863263183648258864318277664) (sq (sq (.seq (.keep (mk 138 304893000761160863263183648258864318277664) (sq (.seq (sq (.keep (mk 138 304893000761160863263183648258864320374816) (.keep (mk 148 312515325780189884844763239465335925405149216) (sq (sq (.seq (.keep (mk 148 312515325780189884844763239465335925405149216) .nil) .nil)))))) .nil))) .nil)))))) .nil)))))))))) }
noncomputable def pol43:FPol:={ ann:=(sq (.seq (sq (.keep (mk 0 0) (.keep (mk 8 140) (sq (.seq (.keep (mk 8 140) (sq (.keep (mk 8 140) (.keep (mk 9 396) (sq (.seq (.keep (mk 9 396) (sq (.seq (sq (.keep (mk 10 908) (.keep (mk 11 1932) (sq (.seq (.keep (mk 11 1932) .nil) .nil))))) .nil))) .nil)))))) .nil))))) .nil)) }
noncomputable def pol44:FPol:={ ann:=(sq (sq (sq (.seq (sq (.keep (mk 7 124) (.keep (mk 8 252) (sq (.seq (.keep (mk 8 252) (sq (.keep (mk 8 252) (.keep (mk 9 508) (sq (.seq (.keep (mk 9 508) .nil) .nil)))))) .nil))))) (.seq (sq (.keep (mk 7 112) (.keep (mk 10 636) (sq (.seq (.keep (mk 10 636) (sq (.keep (mk 10 636) (.keep (mk 11 1660) (sq (.seq (.keep (mk 11 1660) .nil) .nil)))))) .nil))))) .nil))))) }
noncomputable def pol45:FPol:={ ann:=(sq (sq (sq (.seq (sq (.keep (mk 9 412) (.keep (mk 10 924) (sq (.seq (.keep (mk 10 924) (sq (sq (.keep (mk 10 924) (.keep (mk 11 1948) (sq (.seq (.keep (mk 11 1948) (sq (sq (.keep (mk 11 1948) (.keep (mk 12 3996) (sq (.seq (.keep (mk 12 3996) .nil) .nil))))))) .nil))))))) .nil))))) (sq (sq (.seq (sq (.keep (mk 13 4096) (.keep (mk 15 29084) (sq (.seq (.keep (mk 15 29084) (sq (.keep (mk 15 29084) (.keep (mk 16 61852) (sq (.seq (.keep (mk 16 61852) .nil) .nil)))))) .nil))))) .nil))))))) }
noncomputable def pol46:FPol:={ ann:=.nil }
noncomputable def pol47:FPol:={ ann:=.nil }
noncomputable def pol48:FPol:={ ann:=.nil,mixed:=[9] }
noncomputable def pol49:FPol:={ ann:=.nil }
noncomputable def pol50:FPol:={ ann:=(sq (sq (.seq (sq (.keep (mk 0 0) (.keep (mk 39 481036337152) (sq (sq (.seq (.keep (mk 39 481036337152) .nil) .nil)))))) .nil))) }
noncomputable def pol51:FPol:={ ann:=(sq (sq (.seq (sq (.keep (mk 7 92) (.keep (mk 13 7260) (sq (sq (.seq (.keep (mk 13 7260) .nil) .nil)))))) .nil))),plain:=[32] }
noncomputable def pol52:FPol:={ ann:=(sq (sq (.seq (sq (.keep (mk 4 8) (.keep (mk 5 25) (sq (.seq (.keep (mk 5 25) .nil) .nil))))) .nil))) }
noncomputable def pol53:FPol:={ ann:=(sq (.seq (sq (.keep (mk 0 0) (.keep (mk 8 224) (sq (sq (.seq (.keep (mk 8 224) .nil) .nil)))))) .nil)) }
noncomputable def pol54:FPol:={ ann:=(sq (sq (sq (sq (.seq (sq (.keep (mk 8 128) (.keep (mk 38 206158430342) (sq (sq (.seq (.keep (mk 38 206158430342) .nil) .nil)))))) .nil))))) }
noncomputable def pol55:FPol:={ ann:=.nil }
noncomputable def pol56:FPol:={ ann:=(sq (sq (.seq (sq (.keep (mk 2 2) (.keep (mk 4 10) (sq (.seq (.keep (mk 4 10) .nil) .nil))))) (.seq (sq (.keep (mk 0 0) (.keep (mk 5 18) (sq (.seq (.keep (mk 5 18) .nil) .nil))))) .nil)))) }
noncomputable def pol57:FPol:={ ann:=.nil }
noncomputable def pol58:FPol:={ ann:=.nil }
noncomputable def pol59:FPol:={ ann:=.nil }
noncomputable def pol60:FPol:={ ann:=(sq (sq (.seq (sq (.keep (mk 6 51) (.keep (mk 7 115) (sq (.seq (.keep (mk 7 115) .nil) .nil))))) (.seq (sq (.keep (mk 6 51) (.keep (mk 8 179) (sq (.keep (mk 8 179) (sq (sq (.keep (mk 8 179) (.keep (mk 9 435) (sq (.seq (.keep (mk 9 435) .nil) .nil))))))))))) (sq (sq (.seq (sq (.keep (mk 11 1587) (.keep (mk 12 3635) (sq (.seq (.keep (mk 12 3635) .nil) .nil))))) (.seq (sq (.keep (mk 11 1586) (.keep (mk 13 5683) (sq (.seq (.keep (mk 13 5683) .nil) .nil))))) (.seq (sq (.keep (mk 10 528) (.keep (mk 14 9778) (sq (.seq (.keep (mk 14 9778) (sq (.keep (mk 14 9778) (.keep (mk 15 26162) (sq (.seq (.keep (mk 15 26162) (sq (.keep (mk 15 26162) (.keep (mk 16 58930) (sq (.seq (.keep (mk 16 58930) .nil) .nil)))))) .nil)))))) .nil))))) .nil))))))))),rload:=[1000],sload:=[94],pbuild:=[97] }
noncomputable def pol61:FPol:={ ann:=.nil }
noncomputable def pol62:FPol:={ ann:=(sq (.seq (sq (.keep (mk 0 0) (.keep (mk 6 35) (sq (.seq (.keep (mk 6 35) .nil) .nil))))) .nil)) }
noncomputable def pol63:FPol:={ ann:=(sq (.seq (sq (.keep (mk 0 0) (.keep (mk 8 142) (sq (.seq (.keep (mk 8 142) .nil) .nil))))) .nil)) }
noncomputable def pol64:FPol:={ ann:=(sq (.seq (sq (.keep (mk 0 0) (.keep (mk 8 142) (sq (.seq (.keep (mk 8 142) .nil) .nil))))) .nil)) }
noncomputable def pol65:FPol:={ ann:=.nil }
noncomputable def pol66:FPol:={ ann:=(sq (sq (.seq (sq (.keep (mk 7 92) (.keep (mk 13 7260) (sq (sq (.seq (.keep (mk 13 7260) .nil) .nil)))))) .nil))),plain:=[27] }
noncomputable def pol67:FPol:={ ann:=(sq (sq (sq (sq (.seq (sq (.keep (mk 6 50) (.keep (mk 7 114) (sq (.seq (.keep (mk 7 114) .nil) .nil))))) .nil))))) }
noncomputable def pol68:FPol:={ ann:=.nil }
noncomputable def pol69:FPol:={ ann:=(sq (.seq (sq (.keep (mk 2 3) (.keep (mk 6 35) (sq (.seq (.keep (mk 6 35) .nil) .nil))))) .nil)) }
noncomputable def pol70:FPol:={ ann:=(sq (.seq (sq (.keep (mk 0 0) (.keep (mk 8 142) (sq (.seq (.keep (mk 8 142) .nil) .nil))))) .nil)) }
noncomputable def pol71:FPol:={ ann:=(sq (sq (.seq (sq (.keep (mk 0 0) (.keep (mk 34 15032385544) (sq (sq (.seq (.keep (mk 34 15032385544) (sq (sq (.keep (mk 34 15032385544) (.keep (mk 40 977105059976) (sq (sq (.seq (.keep (mk 40 977105059976) .nil) .nil)))))))) .nil)))))) .nil))) }
noncomputable def pol72:FPol:={ ann:=(sq (.seq (sq (.keep (mk 0 0) (.keep (mk 12 3586) (sq (sq (.seq (.keep (mk 12 3586) (sq (sq (.keep (mk 12 3586) (.keep (mk 19 396898) (sq (sq (.seq (.keep (mk 19 396898) .nil) .nil)))))))) .nil)))))) .nil)) }
noncomputable def pol73:FPol:={ ann:=.nil }
noncomputable def pol74:FPol:={ ann:=(sq (sq (.seq (sq (.keep (mk 7 92) (.keep (mk 14 14428) (sq (sq (.seq (.keep (mk 14 14428) (sq (sq (.keep (mk 14 14428) (.keep (mk 20 801116) (sq (sq (.seq (.keep (mk 20 801116) .nil) .nil)))))))) .nil)))))) .nil))) }
noncomputable def pol75:FPol:={ ann:=(sq (.seq (sq (.keep (mk 0 0) (.keep (mk 17 115491) (sq (sq (.seq (.keep (mk 17 115491) .nil) .nil)))))) .nil)) }
noncomputable def pol76:FPol:={ ann:=.nil }
noncomputable def pol77:FPol:={ ann:=.nil }
noncomputable def pol78:FPol:={ ann:=.nil }
noncomputable def pol79:FPol:={ ann:=(sq (.seq (sq (.keep (mk 0 0) (.keep (mk 10 542) (sq (.seq (.keep (mk 10 542) .nil) .nil))))) .nil)) }
noncomputable def pol80:FPol:={ ann:=(sq (.seq (sq (.keep (mk 0 0) (.keep (mk 10 752) (sq (.seq (.keep (mk 10 752) .nil) .nil))))) .nil)) }
noncomputable def pol81:FPol:={ ann:=.nil }
noncomputable def pol82:FPol:={ ann:=.nil }
noncomputable def pol83:FPol:={ ann:=(sq (sq (.seq (sq (.keep (mk 6 32) (.keep (mk 14 14382) (sq (sq (.seq (.keep (mk 14 14382) .nil) .nil)))))) .nil))) }
noncomputable def pol84:FPol:={ ann:=(sq (sq (.seq (sq (.keep (mk 6 32) (.keep (mk 12 3618) (sq (sq (.seq (.keep (mk 12 3618) .nil) .nil)))))) .nil))) }
noncomputable def pol85:FPol:={ ann:=(sq (sq (sq (sq (.seq (sq (.keep (mk 7 118) (.keep (mk 27 117440630) (sq (sq (.seq (.keep (mk 27 117440630) .nil) .nil)))))) (.seq (sq (.keep (mk 6 54) (.keep (mk 10 630) (sq (.seq (.keep (mk 10 630) (sq (.keep (mk 10 630) (.keep (mk 49 492581209244278) (sq (sq (.seq (.keep (mk 49 492581209244278) .nil) .nil))))))) .nil))))) (sq (.seq (sq (.keep (mk 6 54) (.keep (mk 62 4035225266123964470) (sq (sq (.seq (.keep (mk 62 4035225266123964470) .nil) .nil)))))) (sq (.seq (sq (.keep (mk 6 54) (.keep (mk 98 277298568799925181577403826230) (sq (sq (.seq (.keep (mk 98 277298568799925181577403826230) .nil) .nil)))))) (sq (sq (.seq (sq (.keep (mk 6 52) (.keep (mk 131 2381976568446569244243622252022377480246) (sq (sq (.seq (.keep (mk 131 2381976568446569244243622252022377480246) (sq (sq (.keep (mk 131 2381976568446569244243622252022377480246) (.keep (mk 141 2441525982657733475349712808322936917262390) (sq (sq (.seq (.keep (mk 141 2441525982657733475349712808322936917262390) .nil) .nil)))))))) .nil)))))) .nil))))))))))))),plain:=[32,55,58,119,124,168],mixed:=[110,158],rload:=[81],sload:=[79],pbuild:=[82] }
noncomputable def pol86:FPol:={ ann:=.nil }
noncomputable def pol87:FPol:={ ann:=.nil }
noncomputable def pol88:FPol:={ ann:=.nil }
noncomputable def pol89:FPol:={ ann:=.nil }
noncomputable def pol90:FPol:={ ann:=(sq (.seq (sq (.keep (mk 0 0) (.keep (mk 9 387) (sq (sq (.seq (.keep (mk 9 387) .nil) .nil)))))) .nil)) }
noncomputable def pol91:FPol:={ ann:=.nil }
noncomputable def pol92:FPol:={ ann:=.nil }
noncomputable def pol93:FPol:={ ann:=(sq (sq (.seq (sq (.keep (mk 0 0) (.keep (mk 6 44) (sq (.seq (.keep (mk 6 44) .nil) .nil))))) .nil))) }
noncomputable def pol94:FPol:={ ann:=(sq (.seq (sq (.keep (mk 0 0) (.keep (mk 6 41) (sq (.seq (.keep (mk 6 41) .nil) .nil))))) .nil)) }
noncomputable def pol95:FPol:={ ann:=(sq (sq (sq (.seq (sq (.keep (mk 6 32) (.keep (mk 27 117440558) (sq (sq (.seq (.keep (mk 27 117440558) (sq (sq (sq (.keep (mk 27 117440558) .nil))))) .nil)))))) .nil)))) }
noncomputable def pol96:FPol:={ ann:=(sq (sq (sq (.seq (sq (.keep (mk 5 26) (.keep (mk 23 7340058) (sq (sq (.seq (.keep (mk 23 7340058) .nil) .nil)))))) (.seq (sq (.keep (mk 5 16) (.keep (mk 52 3940649673949210) (sq (sq (.seq (.keep (mk 52 3940649673949210) .nil) .nil)))))) .nil))))) }
noncomputable def pol97:FPol:={ ann:=.nil }
noncomputable def pol98:FPol:={ ann:=(sq (sq (.seq (sq (.keep (mk 4 8) (.keep (mk 9 456) (sq (sq (.seq (.keep (mk 9 456) .nil) .nil)))))) .nil))) }
noncomputable def pol99:FPol:={ ann:=.nil }
noncomputable def pol100:FPol:={ ann:=.nil }
noncomputable def pol101:FPol:={ ann:=.nil }
noncomputable def pol102:FPol:={ ann:=(sq (.seq (sq (.keep (mk 2 3) (.keep (mk 12 3587) (sq (sq (.seq (.keep (mk 12 3587) .nil) .nil)))))) .nil)) }
noncomputable def pol103:FPol:={ ann:=.nil }
noncomputable def pol104:FPol:={ ann:=(sq (sq (.seq (sq (.keep (mk 6 32) (.keep (mk 16 57390) (sq (sq (.seq (.keep (mk 16 57390) (sq (sq (.keep (mk 16 57390) (.keep (mk 26 58777774) (sq (sq (.seq (.keep (mk 26 58777774) .nil) .nil)))))))) .nil)))))) .nil))) }
noncomputable def pol105:FPol:={ ann:=(sq (.seq (sq (.keep (mk 0 0) (.keep (mk 9 387) (sq (sq (.seq (.keep (mk 9 387) .nil) .nil)))))) .nil)) }
noncomputable def pol106:FPol:={ ann:=(sq (.keep (mk 0 0) (.keep (mk 4 11) (sq (.seq (.keep (mk 4 11) .nil) .nil))))) }
noncomputable def pol107:FPol:={ ann:=.nil }
noncomputable def pol108:FPol:={ ann:=.nil }
noncomputable def pol109:FPol:={ ann:=.nil }
noncomputable def pol110:FPol:={ ann:=.nil,mixed:=[21] }
noncomputable def pol111:FPol:={ ann:=.nil,plain:=[13] }
noncomputable def pol112:FPol:={ ann:=.nil }
noncomputable def pol113:FPol:={ ann:=.nil,plain:=[10] }
noncomputable def pol114:FPol:={ ann:=(sq (sq (.seq (sq (.keep (mk 1 1) (.keep (mk 4 9) (sq (.seq (.keep (mk 4 9) (sq (.seq (sq (.seq (sq (.keep (mk 4 9) (.keep (mk 6 57) (sq (.seq (.keep (mk 6 57) .nil) .nil))))) .nil)) .nil))) .nil))))) .nil))) }
noncomputable def pol115:FPol:={ ann:=.nil,plain:=[4,6] }
noncomputable def pol116:FPol:={ ann:=(sq (.seq (sq (.keep (mk 0 0) (.keep (mk 9 387) (sq (sq (.seq (.keep (mk 9 387) .nil) .nil)))))) .nil)) }
noncomputable def pol117:FPol:={ ann:=(sq (.seq (sq (.keep (mk 0 0) (.keep (mk 9 387) (sq (sq (.seq (.keep (mk 9 387) .nil) .nil)))))) .nil)) }
noncomputable def pol118:FPol:={ ann:=.nil }
noncomputable def pol119:FPol:={ ann:=.nil }
noncomputable def pol120:FPol:={ ann:=.nil }
noncomputable def pol121:FPol:={ ann:=(sq (sq (.keep (mk 0 0) (.keep (mk 12 3103) (.keep (mk 12 3103) .nil))))),plain:=[30,37,44,52,61,80,103,111,134,146] }
noncomputable def pol122:FPol:={ ann:=.nil }
noncomputable def pol123:FPol:={ ann:=(sq (sq (.keep (mk 0 0) (.keep (mk 10 783) (.keep (mk 10 783) .nil))))),plain:=[27,33,39,46,54,72,92,99,121,132] }
noncomputable def pol124:FPol:={ ann:=.nil,plain:=[13] }
noncomputable def pol125:FPol:={ ann:=(sq (sq (.seq (sq (.keep (mk 1 1) (.keep (mk 4 9) (sq (.seq (.keep (mk 4 9) (sq (.seq (sq (.seq (sq (.keep (mk 4 9) (.keep (mk 6 57) (sq (.seq (.keep (mk 6 57) .nil) .nil))))) .nil)) .nil))) .nil))))) .nil))) }
noncomputable def pol126:FPol:={ ann:=(sq (.keep (mk 0 0) (.keep (mk 9 271) (sq (.seq (.keep (mk 9 271) (sq (.keep (mk 9 271) (.keep (mk 10 783) (sq (.seq (.keep (mk 10 783) .nil) .nil)))))) .nil))))) }
noncomputable def pol127:FPol:={ ann:=(sq (sq (sq (.seq (sq (.keep (mk 11 1801) (.keep (mk 12 3849) (sq (.seq (.keep (mk 12 3849) .nil) .nil))))) (sq (.keep (mk 0 0) (.keep (mk 13 4873) (sq (.seq (.keep (mk 13 4873) .nil) .nil))))))))),plain:=[29,59] }
noncomputable def pol128:FPol:={ ann:=(sq (sq (.seq (sq (sq (sq (.keep (mk 0 0) (.keep (mk 12 3843) (sq (.seq (.keep (mk 12 3843) .nil) .nil))))))) .nil))),plain:=[38] }
noncomputable def pol129:FPol:={ ann:=(sq (sq (sq (sq (sq (sq (sq (sq (.keep (mk 10 768) .nil))))))))),plain:=[40,44,48,54] }
noncomputable def pol130:FPol:={ ann:=(sq (sq (.keep (mk 0 0) (.keep (mk 10 769) (sq (.keep (mk 10 769) .nil)))))) }
noncomputable def pol131:FPol:={ ann:=(sq (sq (.seq (sq (.keep (mk 0 0) (.keep (mk 11 1551) (sq (.seq (.keep (mk 11 1551) (.seq (.keep (mk 11 1551) (.keep (mk 11 1551) (sq (.keep (mk 11 1551) .nil)))) (sq (sq (sq (.seq (sq (.seq (sq (.keep (mk 11 1551) (.keep (mk 12 3599) (sq (.seq (.keep (mk 12 3599) .nil) .nil))))) .nil)) (sq (.seq (sq (.keep (mk 11 1551) (.keep (mk 13 5647) (sq (.seq (.keep (mk 13 5647) .nil) .nil))))) .nil)))))))) .nil))))) .nil))) }
noncomputable def pol132:FPol:={ ann:=(sq (sq (sq (.seq (.keep (mk 12 2048) (.keep (mk 13 6163) (.keep (mk 13 6163) (.seq (.keep (mk 13 6163) (.keep (mk 13 6163) (sq (.keep (mk 13 6163) .nil)))) (.seq (.keep (mk 13 6163) (.keep (mk 13 6163) (sq (.keep (mk 13 6163) .nil)))) .nil))))) .nil)))) }
noncomputable def pol133:FPol:={ ann:=(sq (sq (sq (.seq (.keep (mk 14 12307) (.keep (mk 14 12307) (sq (.keep (mk 14 12307) .nil)))) (.seq (.keep (mk 14 12307) (.keep (mk 14 12307) (sq (.keep (mk 14 12307) .nil)))) (sq (sq (sq (sq (.seq (.keep (mk 14 8195) (.keep (mk 14 12307) (.keep (mk 14 12307) (.seq (.keep (mk 14 12307) (.keep (mk 14 12307) (sq (.keep (mk 14 12307) .nil)))) (.seq (.keep (mk 14 12307) (.keep (mk 14 12307) (sq (.keep (mk 14 12307) .nil)))) .nil))))) .nil)))))))))) }
noncomputable def pol134:FPol:={ ann:=.nil }
noncomputable def pol135:FPol:={ ann:=.nil }
noncomputable def pol136:FPol:={ ann:=(sq (.keep (mk 0 0) (.keep (mk 7 71) (sq (.seq (.keep (mk 7 71) (sq (.keep (mk 7 71) (.keep (mk 8 199) (sq (.seq (.keep (mk 8 199) .nil) .nil)))))) .nil))))) }
noncomputable def pol137:FPol:={ ann:=(sq (sq (sq (.seq (sq (.keep (mk 9 449) (.keep (mk 10 961) (sq (.seq (.keep (mk 10 961) .nil) .nil))))) (sq (.keep (mk 0 0) (.keep (mk 11 1217) (sq (.seq (.keep (mk 11 1217) .nil) .nil))))))))) }
noncomputable def pol138:FPol:={ ann:=(sq (sq (.seq (sq (sq (sq (.keep (mk 0 0) (.keep (mk 10 963) (sq (.seq (.keep (mk 10 963) .nil) .nil))))))) .nil))) }
noncomputable def pol139:FPol:={ ann:=(sq (sq (sq (sq (sq (sq (sq (sq (.keep (mk 8 192) .nil))))))))) }
noncomputable def pol140:FPol:={ ann:=(sq (sq (.keep (mk 0 0) (.keep (mk 8 193) (sq (.keep (mk 8 193) .nil)))))) }
noncomputable def pol141:FPol:={ ann:=(sq (sq (.seq (sq (.keep (mk 0 0) (.keep (mk 9 391) (sq (.seq (.keep (mk 9 391) (.seq (.keep (mk 9 391) (.keep (mk 9 391) (sq (.keep (mk 9 391) .nil)))) (sq (sq (sq (.seq (sq (.seq (sq (.keep (mk 9 391) (.keep (mk 10 903) (sq (.seq (.keep (mk 10 903) .nil) .nil))))) .nil)) (sq (.seq (sq (.keep (mk 9 391) (.keep (mk 11 1415) (sq (.seq (.keep (mk 11 1415) .nil) .nil))))) .nil)))))))) .nil))))) .nil))) }
noncomputable def pol142:FPol:={ ann:=.nil }
noncomputable def pol143:FPol:={ ann:=(sq (sq (sq (.seq (.keep (mk 10 512) (.keep (mk 11 1539) (.keep (mk 11 1539) (.seq (.keep (mk 11 1539) (.keep (mk 11 1539) (sq (.keep (mk 11 1539) .nil)))) (.seq (.keep (mk 11 1539) (.keep (mk 11 1539) (sq (.keep (mk 11 1539) .nil)))) .nil))))) .nil)))) }
noncomputable def pol144:FPol:={ ann:=(sq (sq (sq (.seq (.keep (mk 12 3075) (.keep (mk 12 3075) (sq (.keep (mk 12 3075) .nil)))) (.seq (.keep (mk 12 3075) (.keep (mk 12 3075) (sq (.keep (mk 12 3075) .nil)))) (sq (sq (sq (sq (.seq (.keep (mk 12 2051) (.keep (mk 12 3075) (.keep (mk 12 3075) (.seq (.keep (mk 12 3075) (.keep (mk 12 3075) (sq (.keep (mk 12 3075) .nil)))) (.seq (.keep (mk 12 3075) (.keep (mk 12 3075) (sq (.keep (mk 12 3075) .nil)))) .nil))))) .nil)))))))))) }
noncomputable def pol145:FPol:={ ann:=(sq (sq (.keep (mk 0 0) (.keep (mk 12 3103) (.keep (mk 12 3103) .nil))))),plain:=[30,37,44,52,61,80,103,111,134,146] }
noncomputable def pol146:FPol:={ ann:=(sq (.keep (mk 0 0) (.keep (mk 11 1053) (.keep (mk 11 1053) .nil)))) }
noncomputable def pol147:FPol:={ ann:=.nil }
noncomputable def pol148:FPol:={ ann:=.nil }
noncomputable def pol149:FPol:={ ann:=.nil,plain:=[17] }
noncomputable def pol150:FPol:={ ann:=.nil,plain:=[19,28,37] }
noncomputable def pol151:FPol:={ ann:=(sq (.keep (mk 0 0) (.keep (mk 9 269) (.keep (mk 9 269) .nil)))) }
noncomputable def pol152:FPol:={ ann:=.nil }
noncomputable def pol153:FPol:={ ann:=.nil }
noncomputable def pol154:FPol:={ ann:=(sq (.keep (mk 0 0) (.keep (mk 9 271) (sq (.seq (.keep (mk 9 271) (sq (.keep (mk 9 271) (.keep (mk 10 783) (sq (.seq (.keep (mk 10 783) .nil) .nil)))))) .nil))))) }
noncomputable def pol155:FPol:={ ann:=(sq (sq (sq (.seq (sq (.keep (mk 11 1801) (.keep (mk 12 3849) (sq (.seq (.keep (mk 12 3849) .nil) .nil))))) (sq (.keep (mk 0 0) (.keep (mk 13 4873) (sq (.seq (.keep (mk 13 4873) .nil) .nil))))))))),plain:=[29,59] }
noncomputable def pol156:FPol:={ ann:=(sq (sq (.seq (sq (sq (sq (.keep (mk 0 0) (.keep (mk 12 3843) (sq (.seq (.keep (mk 12 3843) .nil) .nil))))))) .nil))),plain:=[38] }
noncomputable def pol157:FPol:={ ann:=(sq (sq (sq (sq (sq (sq (sq (sq (.keep (mk 10 768) .nil))))))))),plain:=[40,44,48,54] }
noncomputable def pol158:FPol:={ ann:=(sq (sq (.keep (mk 0 0) (.keep (mk 10 769) (sq (.keep (mk 10 769) .nil)))))) }
noncomputable def pol159:FPol:={ ann:=(sq (sq (.seq (sq (.keep (mk 0 0) (.keep (mk 11 1551) (sq (.seq (.keep (mk 11 1551) (.seq (.keep (mk 11 1551) (.keep (mk 11 1551) (sq (.keep (mk 11 1551) .nil)))) (sq (sq (sq (.seq (sq (.seq (sq (.keep (mk 11 1551) (.keep (mk 12 3599) (sq (.seq (.keep (mk 12 3599) .nil) .nil))))) .nil)) (sq (.seq (sq (.keep (mk 11 1551) (.keep (mk 13 5647) (sq (.seq (.keep (mk 13 5647) .nil) .nil))))) .nil)))))))) .nil))))) .nil))) }
noncomputable def pol160:FPol:={ ann:=(sq (sq (sq (.seq (.keep (mk 12 2048) (.keep (mk 13 6163) (.keep (mk 13 6163) (.seq (.keep (mk 13 6163) (.keep (mk 13 6163) (sq (.keep (mk 13 6163) .nil)))) (.seq (.keep (mk 13 6163) (.keep (mk 13 6163) (sq (.keep (mk 13 6163) .nil)))) .nil))))) .nil)))) }
noncomputable def pol161:FPol:={ ann:=(sq (sq (sq (.seq (.keep (mk 14 12307) (.keep (mk 14 12307) (sq (.keep (mk 14 12307) .nil)))) (.seq (.keep (mk 14 12307) (.keep (mk 14 12307) (sq (.keep (mk 14 12307) .nil)))) (sq (sq (sq (sq (.seq (.keep (mk 14 8195) (.keep (mk 14 12307) (.keep (mk 14 12307) (.seq (.keep (mk 14 12307) (.keep (mk 14 12307) (sq (.keep (mk 14 12307) .nil)))) (.seq (.keep (mk 14 12307) (.keep (mk 14 12307) (sq (.keep (mk 14 12307) .nil)))) .nil))))) .nil)))))))))) }
noncomputable def pol162:FPol:={ ann:=.nil }
noncomputable def pol163:FPol:={ ann:=.nil }
noncomputable def pol164:FPol:={ ann:=(sq (.keep (mk 0 0) (.keep (mk 11 1053) (.keep (mk 11 1053) .nil)))) }
noncomputable def pol165:FPol:={ ann:=.nil,plain:=[17] }
noncomputable def pol166:FPol:={ ann:=.nil,plain:=[19,28,37] }
noncomputable def pol167:FPol:={ ann:=.nil }
noncomputable def pol:FuncId->FPol
 | 3=>pol3
 | 4=>pol4
 | 5=>pol5
 | 6=>pol6
 | 7=>pol7
 | 8=>pol8
 | 9=>pol9
 | 10=>pol10
 | 11=>pol11
 | 12=>pol12
 | 13=>pol13
 | 14=>pol14
 | 15=>pol15
 | 16=>pol16
 | 17=>pol17
 | 18=>pol18
 | 19=>pol19
 | 20=>pol20
 | 21=>pol21
 | 22=>pol22
 | 23=>pol23
 | 24=>pol24
 | 25=>pol25
 | 26=>pol26
 | 27=>pol27
 | 28=>pol28
 | 29=>pol29
 | 30=>pol30
 | 31=>pol31
 | 32=>pol32
 | 33=>pol33
 | 34=>pol34
 | 35=>pol35
 | 36=>pol36
 | 37=>pol37
 | 38=>pol38
 | 39=>pol39
 | 40=>pol40
 | 41=>pol41
 | 42=>pol42
 | 43=>pol43
 | 44=>pol44
 | 45=>pol45
 | 46=>pol46
 | 47=>pol47
 | 48=>pol48
 | 49=>pol49
 | 50=>pol50
 | 51=>pol51
 | 52=>pol52
 | 53=>pol53
 | 54=>pol54
 | 55=>pol55
 | 56=>pol56
 | 57=>pol57
 | 58=>pol58
 | 59=>pol59
 | 60=>pol60
 | 61=>pol61
 | 62=>pol62
 | 63=>pol63
 | 64=>pol64
 | 65=>pol65
 | 66=>pol66
 | 67=>pol67
 | 68=>pol68
 | 69=>pol69
 | 70=>pol70
 | 71=>pol71
 | 72=>pol72
 | 73=>pol73
 | 74=>pol74
 | 75=>pol75
 | 76=>pol76
 | 77=>pol77
 | 78=>pol78
 | 79=>pol79
 | 80=>pol80
 | 81=>pol81
 | 82=>pol82
 | 83=>pol83
 | 84=>pol84
 | 85=>pol85
 | 86=>pol86
 | 87=>pol87
 | 88=>pol88
 | 89=>pol89
 | 90=>pol90
 | 91=>pol91
 | 92=>pol92
 | 93=>pol93
 | 94=>pol94
 | 95=>pol95
 | 96=>pol96
 | 97=>pol97
 | 98=>pol98
 | 99=>pol99
 | 100=>pol100
 | 101=>pol101
 | 102=>pol102
 | 103=>pol103
 | 104=>pol104
 | 105=>pol105
 | 106=>pol106
 | 107=>pol107
 | 108=>pol108
 | 109=>pol109
 | 110=>pol110
 | 111=>pol111
 | 112=>pol112
 | 113=>pol113
 | 114=>pol114
 | 115=>pol115
 | 116=>pol116
 | 117=>pol117
 | 118=>pol118
 | 119=>pol119
 | 120=>pol120
 | 121=>pol121
 | 122=>pol122
 | 123=>pol123
 | 124=>pol124
 | 125=>pol125
 | 126=>pol126
 | 127=>pol127
 | 128=>pol128
 | 129=>pol129
 | 130=>pol130
 | 131=>pol131
 | 132=>pol132
 | 133=>pol133
 | 134=>pol134
 | 135=>pol135
 | 136=>pol136
 | 137=>pol137
 | 138=>pol138
 | 139=>pol139
 | 140=>pol140
 | 141=>pol141
 | 142=>pol142
 | 143=>pol143
 | 144=>pol144
 | 145=>pol145
 | 146=>pol146
 | 147=>pol147
 | 148=>pol148
 | 149=>pol149
 | 150=>pol150
 | 151=>pol151
 | 152=>pol152
 | 153=>pol153
 | 154=>pol154
 | 155=>pol155
 | 156=>pol156
 | 157=>pol157
 | 158=>pol158
 | 159=>pol159
 | 160=>pol160
 | 161=>pol161
 | 162=>pol162
 | 163=>pol163
 | 164=>pol164
 | 165=>pol165
 | 166=>pol166
 | 167=>pol167
 | _=>{}
noncomputable abbrev CC:Za:=callL PP pol
end Go.D
end
/- Typed values of chapter 22, and what operations do with them. -/
section
set_option linter.unusedVariables false
set_option linter.unusedSimpArgs false
namespace Go.D
abbrev pI (n:Int):PV:=.int .i64 n
def Qr (l:List Int):List PV:=l.map pI
def Ws (l:List Bool):List PV:=l.map .bool
def eSl:Option (List Int)->PV
 | none=>.nilsl
 | some l=>.sl false l.length (Qr l)
structure Edg where
 f:Int
 t:Int
 a:Int
 deriving DecidableEq,Inhabited
def eEdg (e:Edg):List PV:=[pI e.f,pI e.t,pI e.a]
def Zd:List Edg->List PV
 | []=>[]
 | e::l=>pI e.f::pI e.t::pI e.a::Zd l
def eEs:Option (List Edg)->PV
 | none=>.nilsl
 | some l=>.sl false l.length (Zd l)
structure Gr where
 n:Int
 init:Option (List Int)
 edges:Option (List Edg)
def eGr (g:Gr):List DV:=[.p (pI g.n),.p (eSl g.init),.p (eEs g.edges)]
abbrev L {α:Type} (o:Option (List α)):List α:=o.getD []
theorem Zu (l:List Int):QP (Qr l)=Qr l:=by
 induction l with
 | nil=>rfl
 | cons a l ih=>simp only [Qr,List.map_cons,QP,Zs] at *; rw [ih]
theorem loosens_edgs (l:List Edg):QP (Zd l)=Zd l:=by
 induction l with
 | nil=>rfl
 | cons a l ih=>simp only [Zd,QP,Zs,ih]
theorem ZO (o:Option (List Int)):Zs (eSl o)=eSl o:=by
 cases o <;> simp [eSl,Zs,Zu]
theorem WU (o:Option (List Edg)):Zs (eEs o)=eEs o:=by
 cases o <;> simp [eEs,Zs,loosens_edgs]
theorem Qi (call:Za) (f:FuncId) (caps args:List DV) (σ:Qa):Qg call (.fn f caps) args σ=Qv call f (args++caps) σ:=Eq.trans rfl rfl
theorem Qz {α β:Type} (x:α) (f:α->Option β):(some x).bind f=f x:=Eq.trans rfl rfl
theorem omap {α β:Type} (x:α) (f:α->β):(some x).map f=some (f x):=Eq.trans rfl rfl
theorem Qk {call:Za} {f:FuncId} {args:List DV} {σ:Qa} {v v':DV} {σ':Qa} (h1:args.map view=args) (h2:args.all Zt=true) (h:call 0 f args []=some (v',σ')) (ht:Ze 0 σ' v'=some v):Qv call f args σ=some v:=by
 unfold Qv
 rw [h1,if_pos h2,h]
 exact ht
theorem Wp {call:Za} {f:FuncId} {args:List DV} {σ:Qa} {v v':DV} {σ':Qa} (h1:args.map view=args) (h2:args.all Zt=false) (h:call σ.length f args σ=some (v',σ')) (ht:Ze σ.length σ' v'=some v):Qv call f args σ=some v:=by
 unfold Qv
 rw [h1,if_neg (by rw [h2]; simp),h]
 exact ht
theorem WT {call:Za} {f:FuncId} {args:List DV} {σ:Qa} {v:DV} (h1:args.map view=args)
  (h:∀ lo σ0,(σ0=[]/\lo=0/\args.all Zt=true)\/(σ0=σ/\lo=σ.length/\args.all Zt=false)->∃ v' σ',call lo f args σ0=some (v',σ')/\Ze lo σ' v'=some v):Qv call f args σ=some v:=by
 cases hr:args.all Zt with
 | true=>
  obtain ⟨v',σ',h2,h3⟩:=h 0 [] (.inl ⟨rfl,rfl,hr⟩)
  exact Qk h1 hr h2 h3
 | false=>
  obtain ⟨v',σ',h2,h3⟩:=h _ σ (.inr ⟨rfl,rfl,hr⟩)
  exact Wp h1 hr h2 h3
theorem QA {β:Type} (x y:Option β):Qh (.p (.bool true)) x y=x:=Eq.trans rfl rfl
theorem Qw {β:Type} (x y:Option β):Qh (.p (.bool false)) x y=y:=Eq.trans rfl rfl
theorem condK_if {β:Type} (b:Bool) (x y:Option β):Qh (.p (.bool b)) x y=if b=true then x else y:=by cases b <;> rfl
theorem QH (x y:DV):Qt (.p (.bool true)) x y=some x:=Eq.trans rfl rfl
theorem QD (x y:DV):Qt (.p (.bool false)) x y=some y:=Eq.trans rfl rfl
theorem ZL (β:Type) (m:Option (DV×Qa)) (σ:Qa) (K:DV->Qa->Option β):Qb β (.p (.bool true)) true m σ K=m.bind fun r=>K r.1 r.2:=Eq.trans rfl rfl
theorem WO (β:Type) (m:Option (DV×Qa)) (σ:Qa) (K:DV->Qa->Option β):Qb β (.p (.bool false)) false m σ K=m.bind fun r=>K r.1 r.2:=Eq.trans rfl rfl
theorem WN (β:Type) (m:Option (DV×Qa)) (σ:Qa) (K:DV->Qa->Option β):Qb β (.p (.bool true)) false m σ K=K .skip σ:=Eq.trans rfl rfl
theorem ZM (β:Type) (m:Option (DV×Qa)) (σ:Qa) (K:DV->Qa->Option β):Qb β (.p (.bool false)) true m σ K=K .skip σ:=Eq.trans rfl rfl
theorem Zq (β:Type) (w:Bool) (m:Option (DV×Qa)) (σ:Qa) (K:DV->Qa->Option β):Qb β (.tuple []) w m σ K=K .skip σ:=Eq.trans rfl rfl
theorem ZD (b:Bool):unOp .not (.p (.bool b))=some (.p (.bool !b)):=Eq.trans rfl rfl
theorem gG:(∀ (β:Type) (m:Option (DV×Qa)) (σ:Qa) (K:DV->Qa->Option β),Qb β (.p (.bool true)) true m σ K=m.bind fun r=>K r.1 r.2)/\
  (∀ (β:Type) (m:Option (DV×Qa)) (σ:Qa) (K:DV->Qa->Option β),Qb β (.p (.bool false)) false m σ K=m.bind fun r=>K r.1 r.2)/\
  (∀ (β:Type) (m:Option (DV×Qa)) (σ:Qa) (K:DV->Qa->Option β),Qb β (.p (.bool true)) false m σ K=K .skip σ)/\
  (∀ (β:Type) (m:Option (DV×Qa)) (σ:Qa) (K:DV->Qa->Option β),Qb β (.p (.bool false)) true m σ K=K .skip σ)/\
  (∀ (β:Type) (w:Bool) (m:Option (DV×Qa)) (σ:Qa) (K:DV->Qa->Option β),Qb β (.tuple []) w m σ K=K .skip σ)/\
  (∀ (α β:Type) (x:α) (f:α->Option β),(some x).bind f=f x)/\(∀ (α β:Type) (x:α) (f:α->β),(some x).map f=some (f x))/\
  (∀ x y:DV,Qt (.p (.bool true)) x y=some x)/\(∀ x y:DV,Qt (.p (.bool false)) x y=some y)/\
  (∀ (β:Type) (x y:Option β),Qh (.p (.bool true)) x y=x)/\(∀ (β:Type) (x y:Option β),Qh (.p (.bool false)) x y=y)/\
  (∀ h:Decidable True,@decide True h=true)/\(∀ h:Decidable False,@decide False h=false)/\((!true)=false)/\((!false)=true)/\
  (∀ b:Bool,unOp .not (.p (.bool b))=some (.p (.bool !b)))/\(∀ (G:Qe) (β:Type) (x:DV) (w:Bool) (m:Option DV) (σ:Qa) (K:DV->Qa->Option β),Gp G x w m σ K=G β x w (m.bind fun v=>some (v,σ)) σ K):=
 ⟨ZL,WO,WN,ZM,Zq,fun _ _=>Qz,fun _ _=>omap,QH,QD,fun _=>QA,fun _=>Qw,decide_true,decide_false,Bool.not_true,Bool.not_false,ZD,fun _ _=>ZB _⟩
section
variable (P:Program) (t:TypeId) (a b:Int)
theorem Zj:binOp P .geq t (.p (.int .i64 a)) (.p (.int .i64 b))=some (.p (.bool (decide (a>=b)))):=Eq.trans rfl rfl
theorem QX:binOp P .leq t (.p (.int .i64 a)) (.p (.int .i64 b))=some (.p (.bool (decide (a<=b)))):=Eq.trans rfl rfl
theorem Zh:binOp P .gtr t (.p (.int .i64 a)) (.p (.int .i64 b))=some (.p (.bool (decide (a>b)))):=Eq.trans rfl rfl
theorem Qn:binOp P .lss t (.p (.int .i64 a)) (.p (.int .i64 b))=some (.p (.bool (decide (a<b)))):=Eq.trans rfl rfl
theorem QV:binOp P .eql t (.p (.int .i64 a)) (.p (.int .i64 b))=some (.p (.bool (decide (a=b)))):=by
 show some (DV.p (PV.bool (a==b)))=_
 exact Eq.trans rfl rfl
theorem Wh:binOp P .neq t (.p (.int .i64 a)) (.p (.int .i64 b))=some (.p (.bool (!decide (a=b)))):=by
 show some (DV.p (PV.bool (a != b)))=_
 exact Eq.trans rfl rfl
theorem Wa:binOp P .add t (.p (.int .i64 a)) (.p (.int .i64 b))=some (.p (.int .i64 (IntKind.wrap .i64 (a+b)))):=Eq.trans rfl rfl
theorem WD:binOp P .sub t (.p (.int .i64 a)) (.p (.int .i64 b))=some (.p (.int .i64 (IntKind.wrap .i64 (a-b)))):=Eq.trans rfl rfl
theorem b_mul:binOp P .mul t (.p (.int .i64 a)) (.p (.int .i64 b))=some (.p (.int .i64 (IntKind.wrap .i64 (a*b)))):=Eq.trans rfl rfl
end
theorem QE {x:Int} (h0 : -9223372036854775808<=x) (h1:x<=9223372036854775807):IntKind.wrap .i64 x=x:=i64_ok h0 h1
theorem Zn {i:Nat} (h:i<=1000000):IntKind.wrap .i64 ((i:Int)+1)=((i+1:Nat):Int):=by
 rw [QE] <;> omega
theorem u22:PP.underlying 22=some (.slice 3):=Eq.trans (by kernel_rfl) rfl
theorem u23:PP.underlying 23=some (.slice 69):=Eq.trans (by kernel_rfl) rfl
theorem u143:PP.underlying 143=some (.slice 34):=Eq.trans (by kernel_rfl) rfl
theorem s3:size? PP 3=some 1:=Eq.trans (by kernel_rfl) rfl
theorem s4:size? PP 4=some 1:=Eq.trans (by kernel_rfl) rfl
theorem s34:size? PP 34=some 1:=Eq.trans (by kernel_rfl) rfl
theorem s69:size? PP 69=some 3:=Eq.trans (by kernel_rfl) rfl
theorem QZ (o:Option (List Int)) (σ:Qa):len PP 22 (.p (eSl o)) σ=some (.p (.int .i64 ((L o).length:Nat))):=by cases o <;> simp [len,u22,eSl]
theorem Ww (o:Option (List Edg)) (σ:Qa):len PP 23 (.p (eEs o)) σ=some (.p (.int .i64 ((L o).length:Nat))):=by cases o <;> simp [len,u23,eEs]
theorem ints_length (l:List Int):(Qr l).length=l.length:=by simp [Qr]
theorem bools_length (l:List Bool):(Ws l).length=l.length:=by simp [Ws]
theorem edgs_length (l:List Edg):(Zd l).length=l.length*3:=by
 induction l with
 | nil=>rfl
 | cons a l ih=>simp [Zd,ih]; omega
theorem ZS {o:Option (List Int)} {i:Nat} (h:i<(L o).length):indexAddr PP 22 (.p (eSl o)) (.p (.int .i64 (i:Nat)))=some (.pptr (Qr (L o)) i):=by
 cases o with
 | none=>simp at h
 | some l=>
  have h2:(0:Int)<=(i:Int)/\(i:Int)<(l.length:Nat):=by simp at h; omega
  simp [indexAddr,u22,s3,eSl,h2]
theorem Uq {o:Option (List Edg)} {i:Nat} (h:i<(L o).length):indexAddr PP 23 (.p (eEs o)) (.p (.int .i64 (i:Nat)))=some (.pptr (Zd (L o)) (i*3)):=by
 cases o with
 | none=>simp at h
 | some l=>
  have h2:(0:Int)<=(i:Int)/\(i:Int)<(l.length:Nat):=by simp at h; omega
  simp [indexAddr,u23,s69,eEs,h2]
def ZX (x:DV) (σ:Qa):Option DV:=match Wl σ 1 x with
 | some [v]=>some v
 | _=>none
theorem QF (x:DV) (σ:Qa):load PP 3 x σ=ZX x σ:=Eq.trans (by kernel_rfl) rfl
theorem UM (x:DV) (σ:Qa):load PP 4 x σ=ZX x σ:=Eq.trans (by kernel_rfl) rfl
theorem QO (x:DV) (σ:Qa):load PP 22 x σ=ZX x σ:=Eq.trans (by kernel_rfl) rfl
theorem Zc (x:DV) (σ:Qa):load PP 23 x σ=ZX x σ:=Eq.trans (by kernel_rfl) rfl
theorem load34 (x:DV) (σ:Qa):load PP 34 x σ=ZX x σ:=Eq.trans (by kernel_rfl) rfl
theorem UN (x:DV) (σ:Qa):load PP 25 x σ=(Wl σ 3 x).map .agg:=Eq.trans (by kernel_rfl) rfl
theorem UC (x:DV) (σ:Qa):load PP 69 x σ=(Wl σ 3 x).map .agg:=Eq.trans (by kernel_rfl) rfl
theorem load1_pptr {cs:List PV} {i:Nat} {x:PV} (h:cs[i]?=some x) (σ:Qa):ZX (.pptr cs i) σ=some (.p x):=by
 obtain ⟨h1,h2⟩:=drop_one h
 simp [ZX,Wl,h1,h2]
theorem ZG {l:List Int} {i:Nat} (h:i<l.length) (σ:Qa):ZX (.pptr (Qr l) i) σ=some (.p (.int .i64 l[i])):=
 load1_pptr (by simp [Qr,h]) σ
theorem edgs_get:∀ (l:List Edg) (i:Nat) (h:i<l.length),(Zd l)[i*3]?=some (pI l[i].f)/\(Zd l)[i*3+1]?=some (pI l[i].t)/\(Zd l)[i*3+2]?=some (pI l[i].a)
 | e::l,0,h=>by simp [Zd]
 | e::l,i+1,h=>by
  have:=edgs_get l i (by simpa using h)
  have e3:(i+1)*3=i*3+1+1+1:=by omega
  rw [e3]
  simpa [Zd] using this
theorem load69_edgs {l:List Edg} {i:Nat} (h:i<l.length) (σ:Qa):(Wl σ 3 (.pptr (Zd l) (i*3))).map DV.agg=some (.agg [.p (pI l[i].f),.p (pI l[i].t),.p (pI l[i].a)]):=by
 have hle:i*3+3<=(Zd l).length:=by rw [edgs_length]; omega
 obtain ⟨h1,h2,h3⟩:=edgs_get l i h
 have hd:((Zd l).drop (i*3)).take 3=[pI l[i].f,pI l[i].t,pI l[i].a]:=by
  apply List.ext_getElem?
  intro j
  match j with
  | 0=>simpa using h1
  | 1=>simpa using h2
  | 2=>simpa using h3
  | j+3=>simp; omega
 simp [Wl,hle,hd]
theorem We (x:DV):fieldAddr PP 25 x 0=QL x 0:=Eq.trans (by kernel_rfl) rfl
theorem WE (x:DV):fieldAddr PP 25 x 1=QL x 1:=Eq.trans (by kernel_rfl) rfl
theorem Zg (x:DV):fieldAddr PP 25 x 2=QL x 2:=Eq.trans (by kernel_rfl) rfl
theorem VY (x:DV):fieldAddr PP 69 x 0=QL x 0:=Eq.trans (by kernel_rfl) rfl
theorem VN (x:DV):fieldAddr PP 69 x 1=QL x 1:=Eq.trans (by kernel_rfl) rfl
theorem VD (x:DV):fieldAddr PP 69 x 2=QL x 2:=Eq.trans (by kernel_rfl) rfl
theorem QJ (r off n:Nat):QL (.ptr r off) n=some (.ptr r (off+n)):=Eq.trans rfl rfl
theorem shift_pptr (cs:List PV) (off n:Nat):QL (.pptr cs off) n=some (.pptr cs (off+n)):=Eq.trans rfl rfl
theorem gP:(∀ r o n:Nat,QL (.ptr r o) n=some (.ptr r (o+n)))/\(∀ (cs:List PV) (o n:Nat),QL (.pptr cs o) n=some (.pptr cs (o+n)))/\(∀ n:Nat,0+n=n)/\(∀ n:Nat,n+0=n)/\
  (∀ (call:Za) (f:FuncId) (caps args:List DV) (σ:Qa),Qg call (.fn f caps) args σ=Qv call f (args++caps) σ)/\(∀ (α:Type) (l:List α),l++[]=l)/\(∀ (α:Type) (a:α) (l:List α),[a]++l=a::l)/\(∀ (α:Type) (a:α) (l m:List α),(a::l)++m=a::(l++m))/\(∀ (α:Type) (l:List α),[]++l=l):=
 ⟨QJ,shift_pptr,Nat.zero_add,Nat.add_zero,Qi,fun _=>List.append_nil,fun _ _ _=>rfl,fun _ _ _ _=>rfl,fun _ _=>rfl⟩
theorem Qc {σ:Qa} {r off:Nat} {cs:List DV} {v:DV} (h:σ[r]?=some (.mix cs)) (hv:cs[off]?=some v):ZX (.ptr r off) σ=some v:=by
 obtain ⟨h1,h2⟩:=List.getElem?_eq_some_iff.1 hv
 have h3:(cs.drop off).take 1=[v]:=by rw [List.drop_eq_getElem_cons h1,h2]; rfl
 have h4:off+1<=cs.length:=h1
 simp [ZX,Wl,h,h3,h4]
theorem QI {σ:Qa} {r off n:Nat} {cs vs:List DV} (h:σ[r]?=some (.mix cs)) (hv:(cs.drop off).take n=vs) (hn:off+n<=cs.length):Wl σ n (.ptr r off)=some vs:=by
 simp [Wl,h,hn,hv]
theorem Us:Qx PP 69=some [.p (pI 0),.p (pI 0),.p (pI 0)]:=Eq.trans (by kernel_rfl) rfl
theorem Uy:Qx PP 3=some [.p (pI 0)]:=Eq.trans (by kernel_rfl) rfl
theorem zero25:Qx PP 25=some [.p (pI 0),.p .nilsl,.p .nilsl]:=Eq.trans (by kernel_rfl) rfl
end Go.D
end
/- Equations of functions 88, 61, 73, 120, 99, 36, 116, 86, 117, 89, 62, 98, 119, 92, 69, 53, 87, 91, 34, 16, printed by gen.py. -/
section
set_option linter.unusedVariables false
set_option maxRecDepth 10000
namespace Go.D
open Go.Proofs
noncomputable section
variable (G:Qe) (lo:Nat) {σ:Qa} {r:DV×Qa}
open _root_.Go.D.Code (fstC sndC)
open _root_.Go.D.Ann (left right)
def c88_0:Code:=Qs Tryz.f88
def a88_0:Ann:=(pol 88).ann
def F88 (a b c:DV) (σ:Qa):RS:=
 Qm G PP (pol 88) CC lo c88_0 a88_0 (a::b::c::zn 12 []) σ (finR PP Tryz.f88.results.toList)
theorem F88_eq (G:Qe) (lo:Nat) (a b c:DV) (σ:Qa):F88 G lo a b c σ =
 (binOp PP .geq 3 a b).bind fun g=>
 G _ g true (some (a,σ)) σ fun j σ1=>
 G _ g true (some (c,σ1)) σ1 fun l σ2=>
 Gp G g true (binOp PP .leq 3 j l) σ2 fun q σ3=>
 (Qt g q (DV.p (PV.bool false))).bind fun w=>
 some (w,σ3):=by kernel_rfl
theorem F88_call {lo:Nat} {a b c:DV} (h:F88 Qb lo a b c σ=some r):CC lo 88 [a,b,c] σ=some r:=
 callL_run Tryz.func88 (by decide +kernel) rfl (by decide +kernel) h
def c61_0:Code:=Qs Tryz.f61
def a61_0:Ann:=(pol 61).ann
def F61 (a b c:DV) (σ:Qa):RS:=
 Qm G PP (pol 61) CC lo c61_0 a61_0 (a::b::c::zn 12 []) σ (finR PP Tryz.f61.results.toList)
theorem F61_eq (G:Qe) (lo:Nat) (a b c:DV) (σ:Qa):F61 G lo a b c σ =
 (binOp PP .geq 3 a b).bind fun g=>
 G _ g true (some (a,σ)) σ fun j σ1=>
 G _ g true (some (c,σ1)) σ1 fun l σ2=>
 Gp G g true (binOp PP .leq 3 j l) σ2 fun q σ3=>
 (Qt g q (DV.p (PV.bool false))).bind fun w=>
 some (w,σ3):=by kernel_rfl
theorem F61_call {lo:Nat} {a b c:DV} (h:F61 Qb lo a b c σ=some r):CC lo 61 [a,b,c] σ=some r:=
 callL_run Tryz.func61 (by decide +kernel) rfl (by decide +kernel) h
def c73_0:Code:=Qs Tryz.f73
def a73_0:Ann:=(pol 73).ann
def F73 (a b:DV) (σ:Qa):RS:=
 Qm G PP (pol 73) CC lo c73_0 a73_0 (a::b::zn 5 []) σ (finR PP Tryz.f73.results.toList)
theorem F73_eq (G:Qe) (lo:Nat) (a b:DV) (σ:Qa):F73 G lo a b σ =
 Qh a
 (
 some (I0,σ)
 )
 (
 some (b,σ)
 ):=by kernel_rfl
theorem F73_call {lo:Nat} {a b:DV} (h:F73 Qb lo a b σ=some r):CC lo 73 [a,b] σ=some r:=
 callL_run Tryz.func73 (by decide +kernel) rfl (by decide +kernel) h
def c120_0:Code:=Qs Tryz.f120
def a120_0:Ann:=(pol 120).ann
def F120 (a:DV) (σ:Qa):RS:=
 Qm G PP (pol 120) CC lo c120_0 a120_0 (a::zn 5 []) σ (finR PP Tryz.f120.results.toList)
theorem F120_eq (G:Qe) (lo:Nat) (a:DV) (σ:Qa):F120 G lo a σ =
 (binOp PP .neq 3 a a).bind fun m=>
 some (m,σ):=by kernel_rfl
theorem F120_call {lo:Nat} {a:DV} (h:F120 Qb lo a σ=some r):CC lo 120 [a] σ=some r:=
 callL_run Tryz.func120 (by decide +kernel) rfl (by decide +kernel) h
def c99_0:Code:=Qs Tryz.f99
def a99_0:Ann:=(pol 99).ann
def F99 (a b:DV) (σ:Qa):RS:=
 Qm G PP (pol 99) CC lo c99_0 a99_0 (a::b::zn 18 []) σ (finR PP Tryz.f99.results.toList)
theorem F99_eq (G:Qe) (lo:Nat) (a b:DV) (σ:Qa):F99 G lo a b σ =
 (Qg CC (DV.fn 120 []) [a] σ).bind fun k=>
 (Qg CC (DV.fn 120 []) [b] σ).bind fun i=>
 Qh k
 (
 Qh i
 (
 some (I0,σ)
 )
 (
 some ((DV.p (PV.int IntKind.i64 (-1))),σ)
 )
 )
 (
 Qh i
 (
 some (I1,σ)
 )
 (
 (binOp PP .lss 3 a b).bind fun ah=>
 Qh ah
 (
 some ((DV.p (PV.int IntKind.i64 (-1))),σ)
 )
 (
 (binOp PP .gtr 3 a b).bind fun b8=>
 Qh b8
 (
 some (I1,σ)
 )
 (
 some (I0,σ)
 )
 )
 )
 ):=by kernel_rfl
theorem F99_call {lo:Nat} {a b:DV} (h:F99 Qb lo a b σ=some r):CC lo 99 [a,b] σ=some r:=
 callL_run Tryz.func99 (by decide +kernel) rfl (by decide +kernel) h
def c36_0:Code:=Qs Tryz.f36
def a36_0:Ann:=(pol 36).ann
def F36 (a:DV) (σ:Qa):RS:=
 Qm G PP (pol 36) CC lo c36_0 a36_0 [a,Z,Z,Z] σ (finR PP Tryz.f36.results.toList)
theorem F36_eq (G:Qe) (lo:Nat) (a:DV) (σ:Qa):F36 G lo a σ =
 Qh a
 (
 some (I1,σ)
 )
 (
 some (I0,σ)
 ):=by kernel_rfl
theorem F36_call {lo:Nat} {a:DV} (h:F36 Qb lo a σ=some r):CC lo 36 [a] σ=some r:=
 callL_run Tryz.func36 (by decide +kernel) rfl (by decide +kernel) h
def c116_0:Code:=Qs Tryz.f116
def a116_0:Ann:=(pol 116).ann
def a116_5:Ann:=right (left (right a116_0))
def a116_6:Ann:=left a116_5
def c116_7:Code:=fstC (fstC (sndC (fstC (sndC c116_0))))
def c116_25:Code:=sndC (sndC c116_0)
def a116_25:Ann:=right (right a116_0)
def f116_L0 (a b H k:DV) (σ:Qa):RS:=
 Qm G PP (pol 116) CC lo (.loop c116_7) a116_6 (a::b::zn 5 (H::k::zn 10 [])) σ
 (Qf 0 a116_5 (seqC G PP (pol 116) CC lo c116_25 a116_25 (finR PP Tryz.f116.results.toList)))
def F116 (a b:DV) (σ:Qa):RS:=
 Qm G PP (pol 116) CC lo c116_0 a116_0 (a::b::zn 17 []) σ (finR PP Tryz.f116.results.toList)
theorem f116_L0_eq (G:Qe) (hG:Qo G) (lo:Nat) (a b H k:DV) (σ:Qa):f116_L0 G lo a b H k σ =
 (binOp PP .lss 3 k H).bind fun g=>
 Qh g
 (
 (indexAddr PP 22 a k).bind fun w=>
 (load PP 3 w σ).bind fun F=>
 (Qg CC b [F] σ).bind fun ah=>
 Qh ah
 (
 some (k,σ)
 )
 (
 (binOp PP .add 3 k I1).bind fun af=>
 f116_L0 G lo a b H af σ
 )
 )
 (
 some ((DV.p (PV.int IntKind.i64 (-1))),σ)
 ):=(Ql G hG).trans (by kernel_rfl)
theorem F116_eq (G:Qe) (lo:Nat) (a b:DV) (σ:Qa):F116 G lo a b σ =
 (len PP 22 a σ).bind fun H=>
 f116_L0 G lo a b H I0 σ:=by kernel_rfl
theorem F116_call {lo:Nat} {a b:DV} (h:F116 Qb lo a b σ=some r):CC lo 116 [a,b] σ=some r:=
 callL_run Tryz.func116 (by decide +kernel) rfl (by decide +kernel) h
def c86_0:Code:=Qs Tryz.f86
def a86_0:Ann:=(pol 86).ann
def F86 (a b:DV) (σ:Qa):RS:=
 Qm G PP (pol 86) CC lo c86_0 a86_0 (a::b::zn 7 []) σ (finR PP Tryz.f86.results.toList)
theorem F86_eq (G:Qe) (lo:Nat) (a b:DV) (σ:Qa):F86 G lo a b σ =
 (Qg CC (DV.fn 116 []) [a,b] σ).bind fun H=>
 (binOp PP .geq 3 H I0).bind fun k=>
 some (k,σ):=by kernel_rfl
theorem F86_call {lo:Nat} {a b:DV} (h:F86 Qb lo a b σ=some r):CC lo 86 [a,b] σ=some r:=
 callL_run Tryz.func86 (by decide +kernel) rfl (by decide +kernel) h
def c117_0:Code:=Qs Tryz.f117
def a117_0:Ann:=(pol 117).ann
def a117_5:Ann:=right (left (right a117_0))
def a117_6:Ann:=left a117_5
def c117_7:Code:=fstC (fstC (sndC (fstC (sndC c117_0))))
def c117_25:Code:=sndC (sndC c117_0)
def a117_25:Ann:=right (right a117_0)
def f117_L0 (a b H k:DV) (σ:Qa):RS:=
 Qm G PP (pol 117) CC lo (.loop c117_7) a117_6 (a::b::zn 5 (H::k::zn 10 [])) σ
 (Qf 0 a117_5 (seqC G PP (pol 117) CC lo c117_25 a117_25 (finR PP Tryz.f117.results.toList)))
def F117 (a b:DV) (σ:Qa):RS:=
 Qm G PP (pol 117) CC lo c117_0 a117_0 (a::b::zn 17 []) σ (finR PP Tryz.f117.results.toList)
theorem f117_L0_eq (G:Qe) (hG:Qo G) (lo:Nat) (a b H k:DV) (σ:Qa):f117_L0 G lo a b H k σ =
 (binOp PP .lss 3 k H).bind fun g=>
 Qh g
 (
 (indexAddr PP 22 a k).bind fun w=>
 (load PP 3 w σ).bind fun F=>
 (binOp PP .eql 3 b F).bind fun ah=>
 Qh ah
 (
 some (k,σ)
 )
 (
 (binOp PP .add 3 k I1).bind fun af=>
 f117_L0 G lo a b H af σ
 )
 )
 (
 some ((DV.p (PV.int IntKind.i64 (-1))),σ)
 ):=(Ql G hG).trans (by kernel_rfl)
theorem F117_eq (G:Qe) (lo:Nat) (a b:DV) (σ:Qa):F117 G lo a b σ =
 (len PP 22 a σ).bind fun H=>
 f117_L0 G lo a b H I0 σ:=by kernel_rfl
theorem F117_call {lo:Nat} {a b:DV} (h:F117 Qb lo a b σ=some r):CC lo 117 [a,b] σ=some r:=
 callL_run Tryz.func117 (by decide +kernel) rfl (by decide +kernel) h
def c89_0:Code:=Qs Tryz.f89
def a89_0:Ann:=(pol 89).ann
def F89 (a b:DV) (σ:Qa):RS:=
 Qm G PP (pol 89) CC lo c89_0 a89_0 (a::b::zn 7 []) σ (finR PP Tryz.f89.results.toList)
theorem F89_eq (G:Qe) (lo:Nat) (a b:DV) (σ:Qa):F89 G lo a b σ =
 (Qg CC (DV.fn 117 []) [a,b] σ).bind fun H=>
 (binOp PP .geq 3 H I0).bind fun k=>
 some (k,σ):=by kernel_rfl
theorem F89_call {lo:Nat} {a b:DV} (h:F89 Qb lo a b σ=some r):CC lo 89 [a,b] σ=some r:=
 callL_run Tryz.func89 (by decide +kernel) rfl (by decide +kernel) h
def c62_0:Code:=Qs Tryz.f62
def a62_0:Ann:=(pol 62).ann
def a62_5:Ann:=right (left (right a62_0))
def a62_6:Ann:=left a62_5
def c62_7:Code:=fstC (fstC (sndC (fstC (sndC c62_0))))
def c62_23:Code:=sndC (sndC c62_0)
def a62_23:Ann:=right (right a62_0)
def f62_L0 (a b m:DV) (σ:Qa):RS:=
 Qm G PP (pol 62) CC lo (.loop c62_7) a62_6 (a::b::Z::Z::Z::m::zn 12 []) σ
 (Qf 0 a62_5 (seqC G PP (pol 62) CC lo c62_23 a62_23 (finR PP Tryz.f62.results.toList)))
def F62 (a b:DV) (σ:Qa):RS:=
 Qm G PP (pol 62) CC lo c62_0 a62_0 (a::b::zn 16 []) σ (finR PP Tryz.f62.results.toList)
theorem f62_L0_eq (G:Qe) (hG:Qo G) (lo:Nat) (a b m:DV) (σ:Qa):f62_L0 G lo a b m σ =
 (len PP 22 a σ).bind fun k=>
 (binOp PP .lss 3 m k).bind fun g=>
 Qh g
 (
 (indexAddr PP 22 a m).bind fun w=>
 (load PP 3 w σ).bind fun F=>
 (binOp PP .eql 3 F b).bind fun R=>
 Qh R
 (
 some ((DV.p (PV.bool true)),σ)
 )
 (
 (binOp PP .add 3 m I1).bind fun j=>
 f62_L0 G lo a b j σ
 )
 )
 (
 some ((DV.p (PV.bool false)),σ)
 ):=(Ql G hG).trans (by kernel_rfl)
theorem F62_eq (G:Qe) (lo:Nat) (a b:DV) (σ:Qa):F62 G lo a b σ =
 f62_L0 G lo a b I0 σ:=by kernel_rfl
theorem F62_call {lo:Nat} {a b:DV} (h:F62 Qb lo a b σ=some r):CC lo 62 [a,b] σ=some r:=
 callL_run Tryz.func62 (by decide +kernel) rfl (by decide +kernel) h
def c98_0:Code:=Qs Tryz.f98
def a98_0:Ann:=(pol 98).ann
def a98_7:Ann:=right (left (right (right a98_0)))
def a98_8:Ann:=left a98_7
def c98_9:Code:=fstC (fstC (sndC (fstC (sndC (sndC c98_0)))))
def c98_27:Code:=sndC (sndC (sndC c98_0))
def a98_27:Ann:=right (right (right a98_0))
def f98_L0 (d O H k:DV) (σ:Qa):RS:=
 Qm G PP (pol 98) CC lo (.loop c98_9) a98_8 (Z::Z::Z::d::Z::Z::O::H::k::zn 9 []) σ
 (Qf 0 a98_7 (seqC G PP (pol 98) CC lo c98_27 a98_27 (finR PP Tryz.f98.results.toList)))
def F98 (a:DV) (σ:Qa):RS:=
 Qm G PP (pol 98) CC lo c98_0 a98_0 (a::zn 17 []) σ (finR PP Tryz.f98.results.toList)
theorem f98_L0_eq (G:Qe) (hG:Qo G) (lo:Nat) (d O H k:DV) (σ:Qa):f98_L0 G lo d O H k σ =
 (binOp PP .lss 3 k H).bind fun g=>
 Qh g
 (
 (indexAddr PP 22 O k).bind fun i=>
 (load PP 3 i σ).bind fun j=>
 (binOp PP .neq 3 j d).bind fun w=>
 Qh w
 (
 some (j,σ)
 )
 (
 (binOp PP .add 3 k I1).bind fun ah=>
 f98_L0 G lo d O H ah σ
 )
 )
 (
 some (d,σ)
 ):=(Ql G hG).trans (by kernel_rfl)
theorem F98_eq (G:Qe) (lo:Nat) (a:DV) (σ:Qa):F98 G lo a σ =
 (len PP 22 a σ).bind fun H=>
 f98_L0 G lo I0 a H I0 σ:=by kernel_rfl
theorem F98_call {lo:Nat} {a:DV} (h:F98 Qb lo a σ=some r):CC lo 98 [a] σ=some r:=
 callL_run Tryz.func98 (by decide +kernel) rfl (by decide +kernel) h
def c119_0:Code:=Qs Tryz.f119
def a119_0:Ann:=(pol 119).ann
def F119 (a b:DV) (σ:Qa):RS:=
 Qm G PP (pol 119) CC lo c119_0 a119_0 (a::b::zn 20 []) σ (finR PP Tryz.f119.results.toList)
theorem F119_eq (G:Qe) (lo:Nat) (a b:DV) (σ:Qa):F119 G lo a b σ =
 (boxV a).bind fun z2=>
 (boxV b).bind fun z3=>
 (fieldAddr PP 69 (DV.ptr (List.length σ) 0) 0).bind fun m=>
 (load PP 3 m ((σ++[Row.mix z2])++[Row.mix z3])).bind fun O=>
 (fieldAddr PP 69 (DV.ptr (List.length (σ++[Row.mix z2])) 0) 0).bind fun H=>
 (load PP 3 H ((σ++[Row.mix z2])++[Row.mix z3])).bind fun k=>
 (Qg CC (DV.fn 99 []) [O,k] ((σ++[Row.mix z2])++[Row.mix z3])).bind fun g=>
 (fieldAddr PP 69 (DV.ptr (List.length σ) 0) 1).bind fun i=>
 (load PP 3 i ((σ++[Row.mix z2])++[Row.mix z3])).bind fun j=>
 (fieldAddr PP 69 (DV.ptr (List.length (σ++[Row.mix z2])) 0) 1).bind fun l=>
 (load PP 3 l ((σ++[Row.mix z2])++[Row.mix z3])).bind fun q=>
 (Qg CC (DV.fn 99 []) [j,q] ((σ++[Row.mix z2])++[Row.mix z3])).bind fun w=>
 (fieldAddr PP 69 (DV.ptr (List.length σ) 0) 2).bind fun F=>
 (load PP 3 F ((σ++[Row.mix z2])++[Row.mix z3])).bind fun ah=>
 (fieldAddr PP 69 (DV.ptr (List.length (σ++[Row.mix z2])) 0) 2).bind fun R=>
 (load PP 3 R ((σ++[Row.mix z2])++[Row.mix z3])).bind fun af=>
 (Qg CC (DV.fn 99 []) [ah,af] ((σ++[Row.mix z2])++[Row.mix z3])).bind fun b8=>
 (buildSlice PP none 22 3 [(0,g),(1,w),(2,b8)] ((σ++[Row.mix z2])++[Row.mix z3])).bind fun r20_1=>
 (Qg CC (DV.fn 98 []) [r20_1.1] r20_1.2).bind fun u=>
 some (u,r20_1.2):=by kernel_rfl
theorem F119_call {lo:Nat} {a b:DV} (h:F119 Qb lo a b σ=some r):CC lo 119 [a,b] σ=some r:=
 callL_run Tryz.func119 (by decide +kernel) rfl (by decide +kernel) h
def c92_0:Code:=Qs Tryz.f92
def a92_0:Ann:=(pol 92).ann
def F92 (a:DV) (σ:Qa):RS:=
 Qm G PP (pol 92) CC lo c92_0 a92_0 (a::zn 9 []) σ (finR PP Tryz.f92.results.toList)
theorem F92_eq (G:Qe) (lo:Nat) (a:DV) (σ:Qa):F92 G lo a σ =
 (boxV a).bind fun z1=>
 (fieldAddr PP 69 (DV.ptr (List.length σ) 0) 0).bind fun d=>
 (load PP 3 d (σ++[Row.mix z1])).bind fun f=>
 (fieldAddr PP 69 (DV.ptr (List.length σ) 0) 1).bind fun m=>
 (load PP 3 m (σ++[Row.mix z1])).bind fun O=>
 (fieldAddr PP 69 (DV.ptr (List.length σ) 0) 2).bind fun H=>
 (load PP 3 H (σ++[Row.mix z1])).bind fun k=>
 (buildSlice PP none 22 3 [(0,f),(1,O),(2,k)] (σ++[Row.mix z1])).bind fun r9_1=>
 some (r9_1.1,r9_1.2):=by kernel_rfl
theorem F92_call {lo:Nat} {a:DV} (h:F92 Qb lo a σ=some r):CC lo 92 [a] σ=some r:=
 callL_run Tryz.func92 (by decide +kernel) rfl (by decide +kernel) h
def c69_0:Code:=Qs Tryz.f69
def a69_0:Ann:=(pol 69).ann
def a69_5:Ann:=right (left (right a69_0))
def a69_6:Ann:=left a69_5
def c69_7:Code:=fstC (fstC (sndC (fstC (sndC c69_0))))
def c69_23:Code:=sndC (sndC c69_0)
def a69_23:Ann:=right (right a69_0)
def f69_L0 (a b m:DV) (σ:Qa):RS:=
 Qm G PP (pol 69) CC lo (.loop c69_7) a69_6 (a::b::Z::Z::Z::m::zn 46 []) σ
 (Qf 0 a69_5 (seqC G PP (pol 69) CC lo c69_23 a69_23 (finR PP Tryz.f69.results.toList)))
def F69 (a b:DV) (σ:Qa):RS:=
 Qm G PP (pol 69) CC lo c69_0 a69_0 (a::b::zn 50 []) σ (finR PP Tryz.f69.results.toList)
theorem f69_L0_eq (G:Qe) (hG:Qo G) (lo:Nat) (a b m:DV) (σ:Qa):f69_L0 G lo a b m σ =
 (len PP 22 a σ).bind fun k=>
 (binOp PP .lss 3 m k).bind fun g=>
 G _ g true (some (m,σ)) σ fun j σ1=>
 G _ g true (some (b,σ1)) σ1 fun l σ2=>
 Gp G g true (len PP 22 l σ2) σ2 fun q σ3=>
 Gp G g true (binOp PP .lss 3 j q) σ3 fun w σ4=>
 (Qt g w (DV.p (PV.bool false))).bind fun F=>
 Qh F
 (
 (indexAddr PP 22 a m).bind fun Q=>
 (load PP 3 Q σ4).bind fun u=>
 (indexAddr PP 22 b m).bind fun K=>
 (load PP 3 K σ4).bind fun A=>
 (binOp PP .neq 3 u A).bind fun ac=>
 Qh ac
 (
 (indexAddr PP 22 a m).bind fun S=>
 (load PP 3 S σ4).bind fun aw=>
 (indexAddr PP 22 b m).bind fun ae=>
 (load PP 3 ae σ4).bind fun V=>
 (binOp PP .lss 3 aw V).bind fun ai=>
 (Qg CC (DV.fn 36 []) [ai] σ4).bind fun aj=>
 (binOp PP .mul 3 (DV.p (PV.int IntKind.i64 (2))) aj).bind fun aq=>
 (binOp PP .sub 3 I1 aq).bind fun Y=>
 some (Y,σ4)
 )
 (
 (binOp PP .add 3 m I1).bind fun R=>
 f69_L0 G lo a b R σ4
 )
 )
 (
 (len PP 22 a σ4).bind fun C=>
 (len PP 22 b σ4).bind fun y=>
 (binOp PP .gtr 3 C y).bind fun X=>
 (Qg CC (DV.fn 36 []) [X] σ4).bind fun P=>
 (len PP 22 a σ4).bind fun t=>
 (len PP 22 b σ4).bind fun E=>
 (binOp PP .lss 3 t E).bind fun ak=>
 (Qg CC (DV.fn 36 []) [ak] σ4).bind fun ar=>
 (binOp PP .sub 3 P ar).bind fun az=>
 some (az,σ4)
 ):=(Ql G hG).trans (by kernel_rfl)
theorem F69_eq (G:Qe) (lo:Nat) (a b:DV) (σ:Qa):F69 G lo a b σ =
 f69_L0 G lo a b I0 σ:=by kernel_rfl
theorem F69_call {lo:Nat} {a b:DV} (h:F69 Qb lo a b σ=some r):CC lo 69 [a,b] σ=some r:=
 callL_run Tryz.func69 (by decide +kernel) rfl (by decide +kernel) h
def c53_0:Code:=Qs Tryz.f53
def a53_0:Ann:=(pol 53).ann
def a53_5:Ann:=right (left (right a53_0))
def a53_6:Ann:=left a53_5
def c53_7:Code:=fstC (fstC (sndC (fstC (sndC c53_0))))
def c53_25:Code:=sndC (sndC c53_0)
def a53_25:Ann:=right (right a53_0)
def f53_L0 (m O H:DV) (σ:Qa):RS:=
 Qm G PP (pol 53) CC lo (.loop c53_7) a53_6 (zn 5 (m::O::H::zn 7 [])) σ
 (Qf 0 a53_5 (seqC G PP (pol 53) CC lo c53_25 a53_25 (finR PP Tryz.f53.results.toList)))
def F53 (a:DV) (σ:Qa):RS:=
 Qm G PP (pol 53) CC lo c53_0 a53_0 (a::zn 14 []) σ (finR PP Tryz.f53.results.toList)
theorem f53_L0_eq (G:Qe) (hG:Qo G) (lo:Nat) (m O H:DV) (σ:Qa):f53_L0 G lo m O H σ =
 (binOp PP .lss 3 H O).bind fun k=>
 Qh k
 (
 (indexAddr PP 143 m H).bind fun g=>
 (load PP 34 g σ).bind fun i=>
 (binOp PP .neq 34 i I0).bind fun l=>
 Qh l
 (
 some (i,σ)
 )
 (
 (binOp PP .add 3 H I1).bind fun w=>
 f53_L0 G lo m O w σ
 )
 )
 (
 some (I0,σ)
 ):=(Ql G hG).trans (by kernel_rfl)
theorem F53_eq (G:Qe) (lo:Nat) (a:DV) (σ:Qa):F53 G lo a σ =
 (len PP 143 a σ).bind fun O=>
 f53_L0 G lo a O I0 σ:=by kernel_rfl
theorem F53_call {lo:Nat} {a:DV} (h:F53 Qb lo a σ=some r):CC lo 53 [a] σ=some r:=
 callL_run Tryz.func53 (by decide +kernel) rfl (by decide +kernel) h
def c87_0:Code:=Qs Tryz.f87
def a87_0:Ann:=(pol 87).ann
def F87 (a b:DV) (σ:Qa):RS:=
 Qm G PP (pol 87) CC lo c87_0 a87_0 (a::b::zn 8 []) σ (finR PP Tryz.f87.results.toList)
theorem F87_eq (G:Qe) (lo:Nat) (a b:DV) (σ:Qa):F87 G lo a b σ =
 (fieldAddr PP 25 b 0).bind fun m=>
 (load PP 3 m σ).bind fun O=>
 (binOp PP .sub 3 O I1).bind fun H=>
 (Qg CC (DV.fn 88 []) [a,I0,H] σ).bind fun k=>
 (unOp .not k).bind fun g=>
 some (g,σ):=by kernel_rfl
theorem F87_call {lo:Nat} {a b:DV} (h:F87 Qb lo a b σ=some r):CC lo 87 [a,b] σ=some r:=
 callL_run Tryz.func87 (by decide +kernel) rfl (by decide +kernel) h
def c91_0:Code:=Qs Tryz.f91
def a91_0:Ann:=(pol 91).ann
def F91 (a b c:DV) (σ:Qa):RS:=
 Qm G PP (pol 91) CC lo c91_0 a91_0 (a::b::c::zn 12 []) σ (finR PP Tryz.f91.results.toList)
theorem F91_eq (G:Qe) (lo:Nat) (a b c:DV) (σ:Qa):F91 G lo a b c σ =
 (boxV a).bind fun z3=>
 (fieldAddr PP 69 (DV.ptr (List.length σ) 0) 0).bind fun m=>
 (load PP 3 m (σ++[Row.mix z3])).bind fun O=>
 (load PP 3 b (σ++[Row.mix z3])).bind fun H=>
 (binOp PP .eql 3 O H).bind fun k=>
 Gp G k true (fieldAddr PP 69 (DV.ptr (List.length σ) 0) 1) (σ++[Row.mix z3]) fun i σ1=>
 Gp G k true (load PP 3 i σ1) σ1 fun j σ2=>
 Gp G k true (load PP 3 c σ2) σ2 fun l σ3=>
 Gp G k true (binOp PP .eql 3 j l) σ3 fun q σ4=>
 (Qt k q (DV.p (PV.bool false))).bind fun w=>
 some (w,σ4):=by kernel_rfl
theorem F91_call {lo:Nat} {a b c:DV} (h:F91 Qb lo a b c σ=some r):CC lo 91 [a,b,c] σ=some r:=
 callL_run Tryz.func91 (by decide +kernel) rfl (by decide +kernel) h
def c34_0:Code:=Qs Tryz.f34
def a34_0:Ann:=(pol 34).ann
def a34_13:Ann:=right (left (right (right a34_0)))
def a34_14:Ann:=left a34_13
def c34_15:Code:=fstC (fstC (sndC (fstC (sndC (sndC c34_0)))))
def c34_31:Code:=sndC (sndC (sndC c34_0))
def a34_31:Ann:=right (right (right a34_0))
def f34_L0 (a b m:DV) (σ:Qa):RS:=
 Qm G PP (pol 34) CC lo (.loop c34_15) a34_14 (a::b::Z::Z::Z::m::zn 20 []) σ
 (Qf 0 a34_13 (seqC G PP (pol 34) CC lo c34_31 a34_31 (finR PP Tryz.f34.results.toList)))
def F34 (a b:DV) (σ:Qa):RS:=
 Qm G PP (pol 34) CC lo c34_0 a34_0 (a::b::zn 24 []) σ (finR PP Tryz.f34.results.toList)
theorem f34_L0_eq (G:Qe) (hG:Qo G) (lo:Nat) (a b m:DV) (σ:Qa):f34_L0 G lo a b m σ =
 (len PP 22 a σ).bind fun q=>
 (binOp PP .lss 3 m q).bind fun w=>
 Qh w
 (
 (indexAddr PP 22 a m).bind fun b8=>
 (load PP 3 b8 σ).bind fun Q=>
 (indexAddr PP 22 b m).bind fun z=>
 (load PP 3 z σ).bind fun K=>
 (binOp PP .neq 3 Q K).bind fun A=>
 Qh A
 (
 some ((DV.p (PV.bool false)),σ)
 )
 (
 (binOp PP .add 3 m I1).bind fun ah=>
 f34_L0 G lo a b ah σ
 )
 )
 (
 some ((DV.p (PV.bool true)),σ)
 ):=(Ql G hG).trans (by kernel_rfl)
theorem F34_eq (G:Qe) (lo:Nat) (a b:DV) (σ:Qa):F34 G lo a b σ =
 (len PP 22 a σ).bind fun H=>
 (len PP 22 b σ).bind fun g=>
 (binOp PP .neq 3 H g).bind fun i=>
 Qh i
 (
 some ((DV.p (PV.bool false)),σ)
 )
 (
 f34_L0 G lo a b I0 σ
 ):=by kernel_rfl
theorem F34_call {lo:Nat} {a b:DV} (h:F34 Qb lo a b σ=some r):CC lo 34 [a,b] σ=some r:=
 callL_run Tryz.func34 (by decide +kernel) rfl (by decide +kernel) h
def c16_0:Code:=Qs Tryz.f16
def a16_0:Ann:=(pol 16).ann
def F16 (a:DV) (σ:Qa):RS:=
 Qm G PP (pol 16) CC lo c16_0 a16_0 (a::zn 5 []) σ (finR PP Tryz.f16.results.toList)
theorem F16_eq (G:Qe) (lo:Nat) (a:DV) (σ:Qa):F16 G lo a σ =
 (buildSlice PP none 22 0 [] σ).bind fun r3_1=>
 (append PP lo false 22 22 r3_1.1 a r3_1.2).bind fun r5_2=>
 some (r5_2.1,r5_2.2):=by kernel_rfl
theorem F16_call {lo:Nat} {a:DV} (h:F16 Qb lo a σ=some r):CC lo 16 [a] σ=some r:=
 callL_run Tryz.func16 (by decide +kernel) rfl (by decide +kernel) h
end
end Go.D
end
/- Equations of functions 90, 100, 118, 96, 56, 13, printed by gen.py. -/
section
set_option linter.unusedVariables false
set_option maxRecDepth 10000
namespace Go.D
open Go.Proofs
noncomputable section
variable (G:Qe) (lo:Nat) {σ:Qa} {r:DV×Qa}
open _root_.Go.D.Code (fstC sndC)
open _root_.Go.D.Ann (left right)
def c90_0:Code:=Qs Tryz.f90
def a90_0:Ann:=(pol 90).ann
def a90_5:Ann:=right (left (right a90_0))
def a90_6:Ann:=left a90_5
def c90_7:Code:=fstC (fstC (sndC (fstC (sndC c90_0))))
def c90_25:Code:=sndC (sndC c90_0)
def a90_25:Ann:=right (right a90_0)
def f90_L0 (a b H k:DV) (σ:Qa):RS:=
 Qm G PP (pol 90) CC lo (.loop c90_7) a90_6 (a::b::zn 5 (H::k::zn 10 [])) σ
 (Qf 0 a90_5 (seqC G PP (pol 90) CC lo c90_25 a90_25 (finR PP Tryz.f90.results.toList)))
def F90 (a b:DV) (σ:Qa):RS:=
 Qm G PP (pol 90) CC lo c90_0 a90_0 (a::b::zn 17 []) σ (finR PP Tryz.f90.results.toList)
theorem f90_L0_eq (G:Qe) (hG:Qo G) (lo:Nat) (a b H k:DV) (σ:Qa):f90_L0 G lo a b H k σ =
 (binOp PP .lss 3 k H).bind fun g=>
 Qh g
 (
 (indexAddr PP 23 a k).bind fun w=>
 (load PP 69 w σ).bind fun F=>
 (Qg CC b [F] σ).bind fun ah=>
 Qh ah
 (
 some (k,σ)
 )
 (
 (binOp PP .add 3 k I1).bind fun af=>
 f90_L0 G lo a b H af σ
 )
 )
 (
 some ((DV.p (PV.int IntKind.i64 (-1))),σ)
 ):=(Ql G hG).trans (by kernel_rfl)
theorem F90_eq (G:Qe) (lo:Nat) (a b:DV) (σ:Qa):F90 G lo a b σ =
 (len PP 23 a σ).bind fun H=>
 f90_L0 G lo a b H I0 σ:=by kernel_rfl
theorem F90_call {lo:Nat} {a b:DV} (h:F90 Qb lo a b σ=some r):CC lo 90 [a,b] σ=some r:=
 callL_run Tryz.func90 (by decide +kernel) rfl (by decide +kernel) h
def c100_0:Code:=Qs Tryz.f100
def a100_0:Ann:=(pol 100).ann
def F100 (a b:DV) (σ:Qa):RS:=
 Qm G PP (pol 100) CC lo c100_0 a100_0 (a::b::zn 7 []) σ (finR PP Tryz.f100.results.toList)
theorem F100_eq (G:Qe) (lo:Nat) (a b:DV) (σ:Qa):F100 G lo a b σ =
 (Qg CC (DV.fn 90 []) [a,b] σ).bind fun H=>
 (binOp PP .geq 3 H I0).bind fun k=>
 some (k,σ):=by kernel_rfl
theorem F100_call {lo:Nat} {a b:DV} (h:F100 Qb lo a b σ=some r):CC lo 100 [a,b] σ=some r:=
 callL_run Tryz.func100 (by decide +kernel) rfl (by decide +kernel) h
def c118_0:Code:=Qs Tryz.f118
def a118_0:Ann:=(pol 118).ann
def F118 (a b:DV) (σ:Qa):RS:=
 Qm G PP (pol 118) CC lo c118_0 a118_0 (a::b::zn 7 []) σ (finR PP Tryz.f118.results.toList)
theorem F118_eq (G:Qe) (lo:Nat) (a b:DV) (σ:Qa):F118 G lo a b σ =
 (fieldAddr PP 25 b 0).bind fun m=>
 (load PP 3 m σ).bind fun O=>
 (binOp PP .sub 3 O I1).bind fun H=>
 (Qg CC (DV.fn 88 []) [a,I0,H] σ).bind fun k=>
 some (k,σ):=by kernel_rfl
theorem F118_call {lo:Nat} {a b:DV} (h:F118 Qb lo a b σ=some r):CC lo 118 [a,b] σ=some r:=
 callL_run Tryz.func118 (by decide +kernel) rfl (by decide +kernel) h
def c96_0:Code:=Qs Tryz.f96
def a96_0:Ann:=(pol 96).ann
def a96_9:Ann:=right (left (right (right (right a96_0))))
def a96_10:Ann:=left a96_9
def c96_11:Code:=fstC (fstC (sndC (fstC (sndC (sndC (sndC c96_0))))))
def c96_23:Code:=sndC (sndC (sndC (sndC c96_0)))
def a96_23:Ann:=right (right (right (right a96_0)))
def a96_26:Ann:=right (left a96_23)
def a96_27:Ann:=left a96_26
def c96_28:Code:=fstC (fstC (sndC (fstC c96_23)))
def c96_40:Code:=sndC c96_23
def a96_40:Ann:=right a96_23
def f96_L0 (b d f Q u o:DV) (σ:Qa):RS:=
 Qm G PP (pol 96) CC lo (.loop c96_11) a96_10 (Z::b::Z::d::f::zn 15 (Q::u::o::zn 68 [])) σ
 (Qf 0 a96_9 (seqC G PP (pol 96) CC lo c96_23 a96_23 (finR PP Tryz.f96.results.toList)))
def f96_L1 (b d f ak ar az:DV) (σ:Qa):RS:=
 Qm G PP (pol 96) CC lo (.loop c96_28) a96_27 (Z::b::Z::d::f::zn 44 (ak::ar::az::zn 39 [])) σ
 (Qf 2 a96_26 (seqC G PP (pol 96) CC lo c96_40 a96_40 (finR PP Tryz.f96.results.toList)))
def F96 (a:DV) (σ:Qa):RS:=
 Qm G PP (pol 96) CC lo c96_0 a96_0 (a::zn 90 []) σ (finR PP Tryz.f96.results.toList)
theorem f96_L0_eq (G:Qe) (hG:Qo G) (lo:Nat) (b d f Q u o:DV) (σ:Qa):f96_L0 G lo b d f Q u o σ =
 (binOp PP .lss 3 o u).bind fun z=>
 Qh z
 (
 (indexAddr PP 22 Q o).bind fun A=>
 (load PP 3 A σ).bind fun ac=>
 G _ f true (some (d,σ)) σ fun S σ5=>
 G _ f true (some (ac,σ5)) σ5 fun aw σ6=>
 Gp G f true (Qg CC S [aw] σ6) σ6 fun B σ7=>
 (Qt f B (DV.p (PV.bool false))).bind fun I=>
 G _ I true (some (o,σ7)) σ7 fun V σ8=>
 Gp G I true (binOp PP .eql 3 V I0) σ8 fun ai σ9=>
 G _ I true (some (ai,σ9)) σ9 fun aj σ10=>
 Gp G aj false (fieldAddr PP 25 b 1) σ10 fun aq σ11=>
 Gp G aj false (load PP 22 aq σ11) σ11 fun Y σ12=>
 G _ aj false (some (o,σ12)) σ12 fun L σ13=>
 Gp G aj false (binOp PP .sub 3 L I1) σ13 fun C σ14=>
 Gp G aj false (indexAddr PP 22 Y C) σ14 fun x σ15=>
 Gp G aj false (load PP 3 x σ15) σ15 fun y σ16=>
 G _ aj false (some (ac,σ16)) σ16 fun X σ17=>
 Gp G aj false (binOp PP .lss 3 y X) σ17 fun P σ18=>
 Gp G I true (Qt aj (DV.p (PV.bool true)) P) σ18 fun N σ19=>
 (Qt I N (DV.p (PV.bool false))).bind fun t=>
 (binOp PP .add 3 o I1).bind fun J=>
 f96_L0 G lo b d t Q u J σ19
 )
 (
 (fieldAddr PP 25 b 2).bind fun E=>
 (load PP 23 E σ).bind fun ak=>
 (len PP 23 ak σ).bind fun ar=>
 f96_L1 G lo b d f ak ar I0 σ
 ):=(Ql G hG).trans (by kernel_rfl)
theorem f96_L1_eq (G:Qe) (hG:Qo G) (lo:Nat) (b d f ak ar az:DV) (σ:Qa):f96_L1 G lo b d f ak ar az σ =
 (binOp PP .lss 3 az ar).bind fun T=>
 Qh T
 (
 (indexAddr PP 23 ak az).bind fun aa=>
 (load PP 69 aa σ).bind fun b9=>
 (Qx PP 69).bind fun z8=>
 (store PP lo 69 (DV.ptr (List.length σ) 0) b9 (σ++[Row.mix z8])).bind fun σ20=>
 G _ f true (some (d,σ20)) σ20 fun av σ21=>
 Gp G f true (fieldAddr PP 69 (DV.ptr (List.length σ) 0) 0) σ21 fun bc σ22=>
 Gp G f true (load PP 3 bc σ22) σ22 fun bb σ23=>
 Gp G f true (Qg CC av [bb] σ23) σ23 fun bh σ24=>
 (Qt f bh (DV.p (PV.bool false))).bind fun bm=>
 G _ bm true (some (d,σ24)) σ24 fun bj σ25=>
 Gp G bm true (fieldAddr PP 69 (DV.ptr (List.length σ) 0) 1) σ25 fun bu σ26=>
 Gp G bm true (load PP 3 bu σ26) σ26 fun bg σ27=>
 Gp G bm true (Qg CC bj [bg] σ27) σ27 fun bf σ28=>
 (Qt bm bf (DV.p (PV.bool false))).bind fun cm=>
 Gp G cm true (fieldAddr PP 69 (DV.ptr (List.length σ) 0) 2) σ28 fun br σ29=>
 Gp G cm true (load PP 3 br σ29) σ29 fun ba σ30=>
 Gp G cm true (Qg CC (DV.fn 88 []) [ba,I0,(DV.p (PV.int IntKind.i64 (11)))] σ30) σ30 fun cz σ31=>
 (Qt cm cz (DV.p (PV.bool false))).bind fun cc=>
 G _ cc true (some (az,σ31)) σ31 fun ck σ32=>
 Gp G cc true (binOp PP .eql 3 ck I0) σ32 fun ca σ33=>
 G _ cc true (some (ca,σ33)) σ33 fun bq σ34=>
 Gp G bq false (fieldAddr PP 25 b 2) σ34 fun bz σ35=>
 Gp G bq false (load PP 23 bz σ35) σ35 fun bv σ36=>
 G _ bq false (some (az,σ36)) σ36 fun c7 σ37=>
 Gp G bq false (binOp PP .sub 3 c7 I1) σ37 fun cw σ38=>
 Gp G bq false (indexAddr PP 23 bv cw) σ38 fun n σ39=>
 Gp G bq false (load PP 69 n σ39) σ39 fun cr σ40=>
 Gp G bq false (load PP 69 (DV.ptr (List.length σ) 0) σ40) σ40 fun bk σ41=>
 Gp G bq false (Qg CC (DV.fn 119 []) [cr,bk] σ41) σ41 fun bt σ42=>
 Gp G bq false (binOp PP .lss 3 bt I0) σ42 fun bn σ43=>
 Gp G cc true (Qt bq (DV.p (PV.bool true)) bn) σ43 fun bw σ44=>
 (Qt cc bw (DV.p (PV.bool false))).bind fun cn=>
 (binOp PP .add 3 az I1).bind fun ch=>
 f96_L1 G lo b d cn ak ar ch σ44
 )
 (
 some (f,σ)
 ):=(Ql G hG).trans (by kernel_rfl)
theorem F96_eq (G:Qe) (lo:Nat) (a:DV) (σ:Qa):F96 G lo a σ =
 (boxV a).bind fun z1=>
 (fieldAddr PP 25 (DV.ptr (List.length σ) 0) 0).bind fun i=>
 (load PP 3 i (σ++[Row.mix z1])).bind fun j=>
 (Qg CC (DV.fn 88 []) [j,I0,(DV.p (PV.int IntKind.i64 (400)))] (σ++[Row.mix z1])).bind fun l=>
 Gp G l true (fieldAddr PP 25 (DV.ptr (List.length σ) 0) 2) (σ++[Row.mix z1]) fun w σ1=>
 Gp G l true (load PP 23 w σ1) σ1 fun F σ2=>
 Gp G l true (len PP 23 F σ2) σ2 fun ah σ3=>
 Gp G l true (binOp PP .leq 3 ah (DV.p (PV.int IntKind.i64 (2000)))) σ3 fun R σ4=>
 (Qt l R (DV.p (PV.bool false))).bind fun af=>
 (fieldAddr PP 25 (DV.ptr (List.length σ) 0) 1).bind fun b8=>
 (load PP 22 b8 σ4).bind fun Q=>
 (len PP 22 Q σ4).bind fun u=>
 f96_L0 G lo (DV.ptr (List.length σ) 0) (DV.fn 118 [(DV.ptr (List.length σ) 0)]) af Q u I0 σ4:=by kernel_rfl
theorem F96_call {lo:Nat} {a:DV} (h:F96 Qb lo a σ=some r):CC lo 96 [a] σ=some r:=
 callL_run Tryz.func96 (by decide +kernel) rfl (by decide +kernel) h
def c56_0:Code:=Qs Tryz.f56
def a56_0:Ann:=(pol 56).ann
def a56_13:Ann:=right (left (right (right a56_0)))
def a56_14:Ann:=left a56_13
def c56_15:Code:=fstC (fstC (sndC (fstC (sndC (sndC c56_0)))))
def c56_31:Code:=sndC (sndC (sndC c56_0))
def a56_31:Ann:=right (right (right a56_0))
def a56_34:Ann:=right (left a56_31)
def a56_35:Ann:=left a56_34
def c56_36:Code:=fstC (fstC (sndC (fstC c56_31)))
def c56_54:Code:=sndC c56_31
def a56_54:Ann:=right a56_31
def f56_L0 (b d:DV) (σ:Qa):RS:=
 Qm G PP (pol 56) CC lo (.loop c56_15) a56_14 (Z::b::Z::d::zn 106 []) σ
 (Qf 0 a56_13 (seqC G PP (pol 56) CC lo c56_31 a56_31 (finR PP Tryz.f56.results.toList)))
def f56_L1 (b f:DV) (σ:Qa):RS:=
 Qm G PP (pol 56) CC lo (.loop c56_36) a56_35 (Z::b::Z::Z::f::zn 105 []) σ
 (Qf 2 a56_34 (seqC G PP (pol 56) CC lo c56_54 a56_54 (finR PP Tryz.f56.results.toList)))
def F56 (a:DV) (σ:Qa):RS:=
 Qm G PP (pol 56) CC lo c56_0 a56_0 (a::zn 109 []) σ (finR PP Tryz.f56.results.toList)
theorem f56_L0_eq (G:Qe) (hG:Qo G) (lo:Nat) (b d:DV) (σ:Qa):f56_L0 G lo b d σ =
 (fieldAddr PP 25 b 1).bind fun A=>
 (load PP 22 A σ).bind fun ac=>
 (len PP 22 ac σ).bind fun U=>
 (binOp PP .lss 3 d U).bind fun au=>
 Qh au
 (
 (fieldAddr PP 25 b 1).bind fun B=>
 (load PP 22 B σ).bind fun I=>
 (indexAddr PP 22 I d).bind fun V=>
 (load PP 3 V σ).bind fun ai=>
 (fieldAddr PP 25 b 0).bind fun aj=>
 (load PP 3 aj σ).bind fun aq=>
 (binOp PP .sub 3 aq I1).bind fun Y=>
 (Qg CC (DV.fn 61 []) [ai,I0,Y] σ).bind fun L=>
 (unOp .not L).bind fun C=>
 G _ C false (some (d,σ)) σ fun y σ11=>
 Gp G C false (binOp PP .gtr 3 y I0) σ11 fun X σ12=>
 G _ C false (some (X,σ12)) σ12 fun P σ13=>
 Gp G P true (fieldAddr PP 25 b 1) σ13 fun N σ14=>
 Gp G P true (load PP 22 N σ14) σ14 fun t σ15=>
 G _ P true (some (d,σ15)) σ15 fun J σ16=>
 Gp G P true (indexAddr PP 22 t J) σ16 fun E σ17=>
 Gp G P true (load PP 3 E σ17) σ17 fun ak σ18=>
 Gp G P true (fieldAddr PP 25 b 1) σ18 fun ar σ19=>
 Gp G P true (load PP 22 ar σ19) σ19 fun az σ20=>
 G _ P true (some (d,σ20)) σ20 fun T σ21=>
 Gp G P true (binOp PP .sub 3 T I1) σ21 fun W σ22=>
 Gp G P true (indexAddr PP 22 az W) σ22 fun aa σ23=>
 Gp G P true (load PP 3 aa σ23) σ23 fun b9 σ24=>
 Gp G P true (binOp PP .leq 3 ak b9) σ24 fun be σ25=>
 Gp G C false (Qt P be (DV.p (PV.bool false))) σ25 fun bp σ26=>
 (Qt C (DV.p (PV.bool true)) bp).bind fun av=>
 Qh av
 (
 some ((DV.p (PV.bool false)),σ26)
 )
 (
 (binOp PP .add 3 d I1).bind fun aw=>
 f56_L0 G lo b aw σ26
 )
 )
 (
 f56_L1 G lo b I0 σ
 ):=(Ql G hG).trans (by kernel_rfl)
theorem f56_L1_eq (G:Qe) (hG:Qo G) (lo:Nat) (b f:DV) (σ:Qa):f56_L1 G lo b f σ =
 (fieldAddr PP 25 b 2).bind fun bb=>
 (load PP 23 bb σ).bind fun bh=>
 (len PP 23 bh σ).bind fun bm=>
 (binOp PP .lss 3 f bm).bind fun bi=>
 Qh bi
 (
 (fieldAddr PP 25 b 2).bind fun bg=>
 (load PP 23 bg σ).bind fun bf=>
 (indexAddr PP 23 bf f).bind fun dc=>
 (load PP 69 dc σ).bind fun br=>
 (Qx PP 69).bind fun z5=>
 (store PP lo 69 (DV.ptr (List.length σ) 0) br (σ++[Row.mix z5])).bind fun σ27=>
 (fieldAddr PP 69 (DV.ptr (List.length σ) 0) 0).bind fun ba=>
 (load PP 3 ba σ27).bind fun cz=>
 (fieldAddr PP 25 b 0).bind fun cc=>
 (load PP 3 cc σ27).bind fun M=>
 (binOp PP .sub 3 M I1).bind fun ck=>
 (Qg CC (DV.fn 61 []) [cz,I0,ck] σ27).bind fun ca=>
 (unOp .not ca).bind fun bq=>
 Gp G bq false (fieldAddr PP 69 (DV.ptr (List.length σ) 0) 1) σ27 fun bv σ28=>
 Gp G bq false (load PP 3 bv σ28) σ28 fun c7 σ29=>
 Gp G bq false (fieldAddr PP 25 b 0) σ29 fun cw σ30=>
 Gp G bq false (load PP 3 cw σ30) σ30 fun n σ31=>
 Gp G bq false (binOp PP .sub 3 n I1) σ31 fun cr σ32=>
 Gp G bq false (Qg CC (DV.fn 61 []) [c7,I0,cr] σ32) σ32 fun bk σ33=>
 Gp G bq false (unOp .not bk) σ33 fun bt σ34=>
 (Qt bq (DV.p (PV.bool true)) bt).bind fun bn=>
 Gp G bn false (fieldAddr PP 69 (DV.ptr (List.length σ) 0) 2) σ34 fun cn σ35=>
 Gp G bn false (load PP 3 cn σ35) σ35 fun ch σ36=>
 Gp G bn false (Qg CC (DV.fn 61 []) [ch,I0,(DV.p (PV.int IntKind.i64 (11)))] σ36) σ36 fun co σ37=>
 Gp G bn false (unOp .not co) σ37 fun ct σ38=>
 (Qt bn (DV.p (PV.bool true)) ct).bind fun ci=>
 G _ ci false (some (f,σ38)) σ38 fun cb σ39=>
 Gp G ci false (binOp PP .gtr 3 cb I0) σ39 fun cj σ40=>
 G _ ci false (some (cj,σ40)) σ40 fun c8 σ41=>
 Gp G c8 true (fieldAddr PP 25 b 2) σ41 fun cd σ42=>
 Gp G c8 true (load PP 23 cd σ42) σ42 fun dh σ43=>
 G _ c8 true (some (f,σ43)) σ43 fun df σ44=>
 Gp G c8 true (binOp PP .sub 3 df I1) σ44 fun bl σ45=>
 Gp G c8 true (indexAddr PP 23 dh bl) σ45 fun dl σ46=>
 Gp G c8 true (load PP 69 dl σ46) σ46 fun ei σ47=>
 Gp G c8 true (Qg CC (DV.fn 92 []) [ei] σ47) σ47 fun dt σ48=>
 Gp G c8 true (load PP 69 (DV.ptr (List.length σ) 0) σ48) σ48 fun dz σ49=>
 Gp G c8 true (Qg CC (DV.fn 92 []) [dz] σ49) σ49 fun dm σ50=>
 Gp G c8 true (Qg CC (DV.fn 69 []) [dt,dm] σ50) σ50 fun ej σ51=>
 Gp G c8 true (binOp PP .geq 3 ej I0) σ51 fun dk σ52=>
 Gp G ci false (Qt c8 dk (DV.p (PV.bool false))) σ52 fun dj σ53=>
 (Qt ci (DV.p (PV.bool true)) dj).bind fun ea=>
 Qh ea
 (
 some ((DV.p (PV.bool false)),σ53)
 )
 (
 (binOp PP .add 3 f I1).bind fun bu=>
 f56_L1 G lo b bu σ53
 )
 )
 (
 some ((DV.p (PV.bool true)),σ)
 ):=(Ql G hG).trans (by kernel_rfl)
theorem F56_eq (G:Qe) (lo:Nat) (a:DV) (σ:Qa):F56 G lo a σ =
 (boxV a).bind fun z1=>
 (fieldAddr PP 25 (DV.ptr (List.length σ) 0) 0).bind fun O=>
 (load PP 3 O (σ++[Row.mix z1])).bind fun H=>
 (Qg CC (DV.fn 61 []) [H,I0,(DV.p (PV.int IntKind.i64 (400)))] (σ++[Row.mix z1])).bind fun k=>
 (unOp .not k).bind fun g=>
 Gp G g false (fieldAddr PP 25 (DV.ptr (List.length σ) 0) 1) (σ++[Row.mix z1]) fun j σ1=>
 Gp G g false (load PP 22 j σ1) σ1 fun l σ2=>
 Gp G g false (len PP 22 l σ2) σ2 fun q σ3=>
 Gp G g false (fieldAddr PP 25 (DV.ptr (List.length σ) 0) 0) σ3 fun w σ4=>
 Gp G g false (load PP 3 w σ4) σ4 fun F σ5=>
 Gp G g false (binOp PP .gtr 3 q F) σ5 fun ah σ6=>
 (Qt g (DV.p (PV.bool true)) ah).bind fun R=>
 Gp G R false (fieldAddr PP 25 (DV.ptr (List.length σ) 0) 2) σ6 fun b8 σ7=>
 Gp G R false (load PP 23 b8 σ7) σ7 fun Q σ8=>
 Gp G R false (len PP 23 Q σ8) σ8 fun u σ9=>
 Gp G R false (binOp PP .gtr 3 u (DV.p (PV.int IntKind.i64 (2000)))) σ9 fun o σ10=>
 (Qt R (DV.p (PV.bool true)) o).bind fun z=>
 Qh z
 (
 some ((DV.p (PV.bool false)),σ10)
 )
 (
 f56_L0 G lo (DV.ptr (List.length σ) 0) I0 σ10
 ):=by kernel_rfl
theorem F56_call {lo:Nat} {a:DV} (h:F56 Qb lo a σ=some r):CC lo 56 [a] σ=some r:=
 callL_run Tryz.func56 (by decide +kernel) rfl (by decide +kernel) h
def c13_0:Code:=Qs Tryz.f13
def a13_0:Ann:=(pol 13).ann
def F13 (a:DV) (σ:Qa):RS:=
 Qm G PP (pol 13) CC lo c13_0 a13_0 (a::zn 12 []) σ (finR PP Tryz.f13.results.toList)
theorem F13_eq (G:Qe) (lo:Nat) (a:DV) (σ:Qa):F13 G lo a σ =
 (boxV a).bind fun z1=>
 (Qx PP 25).bind fun z2=>
 (fieldAddr PP 25 (DV.ptr (List.length σ) 0) 1).bind fun d=>
 (load PP 22 d ((σ++[Row.mix z1])++[Row.mix z2])).bind fun f=>
 (Qg CC (DV.fn 16 []) [f] ((σ++[Row.mix z1])++[Row.mix z2])).bind fun m=>
 (buildSlice PP none 23 0 [] ((σ++[Row.mix z1])++[Row.mix z2])).bind fun r6_1=>
 (fieldAddr PP 25 (DV.ptr (List.length σ) 0) 2).bind fun H=>
 (load PP 23 H r6_1.2).bind fun k=>
 (append PP lo false 23 23 r6_1.1 k r6_1.2).bind fun r9_2=>
 (fieldAddr PP 25 (DV.ptr (List.length σ) 0) 1).bind fun i=>
 (store PP lo 22 i m r9_2.2).bind fun σ3=>
 (fieldAddr PP 25 (DV.ptr (List.length σ) 0) 2).bind fun j=>
 (store PP lo 23 j r9_2.1 σ3).bind fun σ4=>
 (load PP 25 (DV.ptr (List.length σ) 0) σ4).bind fun l=>
 (store PP lo 25 (DV.ptr (List.length (σ++[Row.mix z1])) 0) l σ4).bind fun σ5=>
 (Vy PP 25 (DV.ptr (List.length (σ++[Row.mix z1])) 0) σ5).bind fun v0=>
 some (v0,σ5):=by kernel_rfl
theorem F13_call {lo:Nat} {a:DV} (h:F13 Qb lo a σ=some r):CC lo 13 [a] σ=some r:=
 callL_run Tryz.func13 (by decide +kernel) rfl (by decide +kernel) h
end
end Go.D
end
/- What functions of the library and of the base answer on graphs: turned from the texts of chapter 21. -/
section
set_option linter.unusedVariables false
set_option linter.unusedSimpArgs false
namespace Go.D
def inR (n a b:Int):Bool:=decide (n>=a)&&decide (n<=b)
theorem S88 (n a b:Int) (σ:Qa):Qv CC 88 [.p (pI n),.p (pI a),.p (pI b)] σ=some (.p (.bool (inR n a b))):=by
 refine Qk rfl rfl (F88_call (r:=(.p (.bool (inR n a b)),[])) ?_) rfl
 rw [F88_eq]
 simp only [Zj,QX,Qz,inR]
 by_cases h:n>=a <;> simp [h,ZB,ZL,ZM,QX,QH,QD]
theorem S61 (n a b:Int) (σ:Qa):Qv CC 61 [.p (pI n),.p (pI a),.p (pI b)] σ=some (.p (.bool (inR n a b))):=by
 refine Qk rfl rfl (F61_call (r:=(.p (.bool (inR n a b)),[])) ?_) rfl
 rw [F61_eq]
 simp only [Zj,QX,Qz,inR]
 by_cases h:n>=a <;> simp [h,ZB,ZL,ZM,QX,QH,QD]
theorem S73 (b:Bool) (e:Int) (σ:Qa):Qv CC 73 [.p (.bool b),.p (pI e)] σ=some (.p (pI (if b then 0 else e))):=by
 refine Qk rfl rfl (F73_call (r:=(.p (pI (if b then 0 else e)),[])) ?_) rfl
 rw [F73_eq]
 cases b <;> rfl
theorem S120 (n:Int) (σ:Qa):Qv CC 120 [.p (pI n)] σ=some (.p (.bool false)):=by
 refine Qk rfl rfl (F120_call (r:=(.p (.bool false),[])) ?_) rfl
 rw [F120_eq]
 simp [Wh]
def cmpI (a b:Int):Int:=if a<b then -1 else if a>b then 1 else 0
theorem S99 (a b:Int) (σ:Qa):Qv CC 99 [.p (pI a),.p (pI b)] σ=some (.p (pI (cmpI a b))):=by
 refine Qk rfl rfl (F99_call (r:=(.p (pI (cmpI a b)),[])) ?_) rfl
 rw [F99_eq]
 simp only [Qi,List.append_nil,S120,Qz,Qw,Qn,Zh,cmpI]
 by_cases h:a<b
 ·simp [h,QA,condK_if]
 ·by_cases h2:a>b <;> simp [h,h2,QA,condK_if]
theorem S36 (b:Bool) (σ:Qa):Qv CC 36 [.p (.bool b)] σ=some (.p (pI (if b then 1 else 0))):=by
 refine Qk rfl rfl (F36_call (r:=(.p (pI (if b then 1 else 0)),[])) ?_) rfl
 rw [F36_eq]
 cases b <;> rfl
def QG {α:Type} (q:α->Bool):List α->Nat->Int
 | [],_=>-1
 | a::l,i=>if q a then (i:Int) else QG q l (i+1)
theorem idxFrom_ge {α:Type} (q:α->Bool):∀ (l:List α) (i:Nat),decide (QG q l i>=0)=l.any q
 | [],i=>rfl
 | a::l,i=>by
  unfold QG
  cases h:q a with
  | true=>simp [h]
  | false=>simp only [Bool.false_eq_true,if_false,idxFrom_ge q l,List.any_cons,h,Bool.false_or]
theorem Wz {α:Type} {l:List α} {i:Nat} (h:i<l.length):l.drop i=l[i]::l.drop (i+1):=List.drop_eq_getElem_cons h
theorem L116 {o:Option (List Int)} {f:FuncId} {caps:List DV} {σ:Qa} {lo:Nat} {q:Int->Bool} (hl:(L o).length<=1000) (hq:∀ v,Qv CC f (.p (pI v)::caps) σ=some (.p (.bool (q v)))) :
  ∀ (k i:Nat),(L o).length-i=k->i<=(L o).length->f116_L0 Qb lo (.p (eSl o)) (.fn f caps) (.p (pI ((L o).length:Nat))) (.p (pI (i:Nat))) σ=some (.p (pI (QG q ((L o).drop i) i)),σ)
 | 0,i,hk,hi=>by
  have:i=(L o).length:=by omega
  rw [f116_L0_eq Qb rfl]
  subst this
  simp [Qn,Qw,QG]
 | k+1,i,hk,hi=>by
  have h:i<(L o).length:=by omega
  have h':(i:Int)<((L o).length:Nat):=by omega
  rw [f116_L0_eq Qb rfl]
  simp only [Qn,Qz,h',decide_true,QA,ZS h,QF,ZG h,Qi,List.singleton_append,hq]
  rw [Wz h]
  cases hqv:q (L o)[i] with
  | true=>simp [QA,QG,hqv]
  | false=>
   simp only [Qw,Wa,Qz,Zn (show i<=1000000 by omega),QG,hqv,Bool.false_eq_true,if_false]
   exact L116 hl hq k (i+1) (by omega) (by omega)
theorem fn_view (f:FuncId) (caps:List DV):view (.fn f caps)=.fn f caps:=rfl
theorem Zf (o:Option (List Int)):view (.p (eSl o))=.p (eSl o):=by simp [view,Zw,ZO]
theorem es_view (o:Option (List Edg)):view (.p (eEs o))=.p (eEs o):=by simp [view,Zw,WU]
abbrev AtSt (caps:List DV) (σ σ0:Qa):Prop:=(σ0=[]/\caps.all ZT=true)\/σ0=σ
theorem S116 {o:Option (List Int)} {f:FuncId} {caps:List DV} {σ:Qa} {q:Int->Bool} (hl:(L o).length<=1000) (hq:∀ σ0,AtSt caps σ σ0->∀ v,Qv CC f (.p (pI v)::caps) σ0=some (.p (.bool (q v)))) :
  Qv CC 116 [.p (eSl o),.fn f caps] σ=some (.p (pI (QG q (L o) 0))):=by
 refine WT (by simp [Zf,fn_view]) fun lo σ0 hs=>⟨_,σ0,F116_call (r:=(.p (pI (QG q (L o) 0)),σ0)) ?_,rfl⟩
 have hat:AtSt caps σ σ0:=by
  rcases hs with ⟨h1,_,h3⟩ | ⟨h1,_,_⟩
  ·exact .inl ⟨h1,by simpa [Zt] using (by simpa [Zt] using h3:_/\_).2⟩
  ·exact .inr h1
 rw [F116_eq]
 simp only [QZ,Qz]
 have:=L116 (lo:=lo) hl (hq σ0 hat) _ 0 rfl (Nat.zero_le _)
 simpa using this
theorem S86 {o:Option (List Int)} {f:FuncId} {caps:List DV} {σ:Qa} {q:Int->Bool} (hl:(L o).length<=1000) (hq:∀ σ0,AtSt caps σ σ0->∀ v,Qv CC f (.p (pI v)::caps) σ0=some (.p (.bool (q v)))) :
  Qv CC 86 [.p (eSl o),.fn f caps] σ=some (.p (.bool ((L o).any q))):=by
 refine WT (by simp [Zf,fn_view]) fun lo σ0 hs=>⟨_,σ0,F86_call (r:=(.p (.bool ((L o).any q)),σ0)) ?_,rfl⟩
 have hat:∀ σ1,AtSt caps σ0 σ1->AtSt caps σ σ1:=by
  intro σ1 h
  rcases hs with ⟨h1,_,h3⟩ | ⟨h1,_,_⟩
  ·rcases h with h | h
   ·exact .inl h
   ·exact .inl ⟨h.trans h1,by simpa [Zt] using (by simpa [Zt] using h3:_/\_).2⟩
  ·rw [<-h1]; exact h
 rw [F86_eq]
 simp only [Qi,List.append_nil,S116 hl fun σ1 h=>hq σ1 (hat σ1 h),Qz,Zj,idxFrom_ge]
theorem QC {l:List Int} {i:Nat} (h:i<l.length) (σ:Qa):ZX (.pptr (Qr l) i) σ=some (.p (pI (l.getD i 0))):=by
 rw [ZG h,List.getD_eq_getElem?_getD,List.getElem?_eq_getElem h]; rfl
theorem wrap_pred {i:Nat} (h:0<i) (h2:i<=1000000):IntKind.wrap .i64 ((i:Int)-1)=((i-1:Nat):Int):=by
 rw [QE] <;> omega
theorem L117 {o:Option (List Int)} {v:Int} {σ:Qa} {lo:Nat} (hl:(L o).length<=1000) :
  ∀ (k i:Nat),(L o).length-i=k->i<=(L o).length->f117_L0 Qb lo (.p (eSl o)) (.p (pI v)) (.p (pI ((L o).length:Nat))) (.p (pI (i:Nat))) σ=some (.p (pI (QG (fun a=>decide (v=a)) ((L o).drop i) i)),σ)
 | 0,i,hk,hi=>by
  have:i=(L o).length:=by omega
  rw [f117_L0_eq Qb rfl]
  subst this
  simp [Qn,Qw,QG]
 | k+1,i,hk,hi=>by
  have h:i<(L o).length:=by omega
  have h':(i:Int)<((L o).length:Nat):=by omega
  rw [f117_L0_eq Qb rfl]
  simp only [Qn,Qz,h',decide_true,QA,ZS h,QF,ZG h,QV]
  rw [Wz h]
  by_cases hqv:v=(L o)[i]
  ·simp [QA,QG,hqv]
  ·simp only [hqv,decide_false,Qw,Wa,Qz,Zn (show i<=1000000 by omega),QG,Bool.false_eq_true,if_false]
   exact L117 hl k (i+1) (by omega) (by omega)
theorem S117 {o:Option (List Int)} {v:Int} {σ:Qa} (hl:(L o).length<=1000):Qv CC 117 [.p (eSl o),.p (pI v)] σ=some (.p (pI (QG (fun a=>decide (v=a)) (L o) 0))):=by
 refine Qk (by simp [Zf]; rfl) rfl (F117_call (r:=(.p (pI (QG (fun a=>decide (v=a)) (L o) 0)),[])) ?_) rfl
 rw [F117_eq]
 simp only [QZ,Qz]
 have:=L117 (lo:=0) (σ:=[]) (v:=v) hl _ 0 rfl (Nat.zero_le _)
 simpa using this
def hasI (l:List Int) (v:Int):Bool:=l.any fun a=>decide (v=a)
theorem S89 {o:Option (List Int)} {v:Int} {σ:Qa} (hl:(L o).length<=1000):Qv CC 89 [.p (eSl o),.p (pI v)] σ=some (.p (.bool (hasI (L o) v))):=by
 refine Qk (by simp [Zf]; rfl) rfl (F89_call (r:=(.p (.bool (hasI (L o) v)),[])) ?_) rfl
 rw [F89_eq]
 simp only [Qi,List.append_nil,S117 hl,Qz,Zj,idxFrom_ge,hasI]
theorem L62 {o:Option (List Int)} {v:Int} {σ:Qa} {lo:Nat} (hl:(L o).length<=1000) :
  ∀ (k i:Nat),(L o).length-i=k->i<=(L o).length->f62_L0 Qb lo (.p (eSl o)) (.p (pI v)) (.p (pI (i:Nat))) σ=some (.p (.bool (hasI ((L o).drop i) v)),σ)
 | 0,i,hk,hi=>by
  have:i=(L o).length:=by omega
  rw [f62_L0_eq Qb rfl]
  subst this
  simp [QZ,Qn,Qw,hasI]
 | k+1,i,hk,hi=>by
  have h:i<(L o).length:=by omega
  have h':(i:Int)<((L o).length:Nat):=by omega
  rw [f62_L0_eq Qb rfl]
  simp only [QZ,Qn,Qz,h',decide_true,QA,ZS h,QF,ZG h,QV]
  rw [Wz h]
  by_cases hqv:(L o)[i]=v
  ·simp [QA,hasI,hqv]
  ·have hqv':¬ v=(L o)[i]:=fun e=>hqv e.symm
   simp only [hqv,decide_false,Qw,Wa,Qz,Zn (show i<=1000000 by omega),hasI,List.any_cons,hqv',Bool.false_or]
   exact L62 hl k (i+1) (by omega) (by omega)
theorem S62 {o:Option (List Int)} {v:Int} {σ:Qa} (hl:(L o).length<=1000):Qv CC 62 [.p (eSl o),.p (pI v)] σ=some (.p (.bool (hasI (L o) v))):=by
 refine Qk (by simp [Zf]; rfl) rfl (F62_call (r:=(.p (.bool (hasI (L o) v)),[])) ?_) rfl
 rw [F62_eq]
 have:=L62 (lo:=0) (σ:=[]) (v:=v) hl _ 0 rfl (Nat.zero_le _)
 simpa using this
def edgD (e:Edg):List DV:=[.p (pI e.f),.p (pI e.t),.p (pI e.a)]
def orL:List Int->Int
 | []=>0
 | a::l=>if a=0 then orL l else a
def ordE (a b:Edg):Int:=orL [cmpI a.f b.f,cmpI a.t b.t,cmpI a.a b.a]
theorem Wc {call:Za} {f:FuncId} {args args':List DV} {σ:Qa} (h:args.map view=args') (h2:args'.map view=args'):Qv call f args σ=Qv call f args' σ:=by
 unfold Qv
 rw [h,h2]
theorem L98 {o:Option (List Int)} {σ:Qa} {lo:Nat} (hl:(L o).length<=1000) :
  ∀ (k i:Nat),(L o).length-i=k->i<=(L o).length->f98_L0 Qb lo (.p (pI 0)) (.p (eSl o)) (.p (pI ((L o).length:Nat))) (.p (pI (i:Nat))) σ=some (.p (pI (orL ((L o).drop i))),σ)
 | 0,i,hk,hi=>by
  have:i=(L o).length:=by omega
  rw [f98_L0_eq Qb rfl]
  subst this
  simp [Qn,Qw,orL]
 | k+1,i,hk,hi=>by
  have h:i<(L o).length:=by omega
  have h':(i:Int)<((L o).length:Nat):=by omega
  rw [f98_L0_eq Qb rfl]
  simp only [Qn,Qz,h',decide_true,QA,ZS h,QF,ZG h,Wh]
  rw [Wz h]
  by_cases hqv:(L o)[i]=0
  ·simp only [hqv,decide_true,Bool.not_true,Qw,Wa,Qz,Zn (show i<=1000000 by omega),orL,if_true]
   exact L98 hl k (i+1) (by omega) (by omega)
  ·simp [QA,orL,hqv]
theorem S98 {o:Option (List Int)} {σ:Qa} (hl:(L o).length<=1000):Qv CC 98 [.p (eSl o)] σ=some (.p (pI (orL (L o)))):=by
 refine Qk (by simp [Zf]) rfl (F98_call (r:=(.p (pI (orL (L o))),[])) ?_) rfl
 rw [F98_eq]
 simp only [QZ,Qz]
 have:=L98 (lo:=0) (σ:=[]) hl _ 0 rfl (Nat.zero_le _)
 simpa using this
theorem box_edg (e:Edg):boxV (.agg (edgD e))=some (edgD e):=rfl
theorem bs22_3 (x y z:Int) (σ:Qa):buildSlice PP none 22 3 [(0,.p (pI x)),(1,.p (pI y)),(2,.p (pI z))] σ=some (.p (.sl true 3 (Qr [x,y,z])),σ):=Eq.trans (by kernel_rfl) rfl
theorem sl3_view (x y z:Int):view (.p (.sl true 3 (Qr [x,y,z])))=.p (eSl (some [x,y,z])):=rfl
theorem QB {σ:Qa} {r:Row}:(σ++[r])[σ.length]?=some r:=by simp
theorem QM {σ:Qa} {r:Row} {i:Nat} {x:Row} (h:σ[i]?=some x):(σ++[r])[i]?=some x:=by
 rw [List.getElem?_append_left (List.getElem?_eq_some_iff.1 h).1]; exact h
theorem S119 (a b:Edg) (σ:Qa):Qv CC 119 [.agg (edgD a),.agg (edgD b)] σ=some (.p (pI (ordE a b))):=by
 refine Qk rfl rfl (F119_call (r:=(.p (pI (ordE a b)),[.mix (edgD a),.mix (edgD b)])) ?_) rfl
 rw [F119_eq]
 have g0:([Row.mix (edgD a),Row.mix (edgD b)]:Qa)[0]?=some (.mix (edgD a)):=rfl
 have g1:([Row.mix (edgD a),Row.mix (edgD b)]:Qa)[1]?=some (.mix (edgD b)):=rfl
 simp only [box_edg,Qz,List.length_nil,List.nil_append,List.length_cons,List.cons_append,VY,VN,VD,QJ,QF,Nat.zero_add,
  Qc (off:=0) g0 rfl,Qc (off:=1) g0 rfl,Qc (off:=2) g0 rfl,Qc (off:=0) g1 rfl,Qc (off:=1) g1 rfl,Qc (off:=2) g1 rfl,Qi,List.append_nil,S99,bs22_3]
 rw [Wc (args':=[.p (eSl (some [cmpI a.f b.f,cmpI a.t b.t,cmpI a.a b.a]))]) (by simp [sl3_view]) (by simp [Zf]),S98 (by simp)]
 rfl
theorem S92 (e:Edg) (σ:Qa):Qv CC 92 [.agg (edgD e)] σ=some (.p (eSl (some [e.f,e.t,e.a]))):=by
 refine Qk rfl rfl (F92_call (r:=(.p (.sl true 3 (Qr [e.f,e.t,e.a])),[.mix (edgD e)])) ?_) rfl
 rw [F92_eq]
 have g0:([Row.mix (edgD e)]:Qa)[0]?=some (.mix (edgD e)):=rfl
 simp only [box_edg,Qz,List.length_nil,List.nil_append,VY,VN,VD,QJ,QF,Nat.zero_add,
  Qc (off:=0) g0 rfl,Qc (off:=1) g0 rfl,Qc (off:=2) g0 rfl,bs22_3]
def Ug:List Int->List Int->Int
 | a::xs,b::ys=>if a=b then Ug xs ys else if a<b then -1 else 1
 | xs,ys=>(if xs.length>ys.length then 1 else 0)-(if xs.length<ys.length then 1 else 0)
theorem firstI_nil (xs ys:List Int) (h:xs=[]\/ys=[]):Ug xs ys=(if xs.length>ys.length then 1 else 0)-(if xs.length<ys.length then 1 else 0):=by
 rcases h with rfl | rfl
 ·unfold Ug; rfl
 ·cases xs <;> rfl
theorem L69 {a b:Option (List Int)} {σ:Qa} {lo:Nat} (ha:(L a).length<=1000) (hb:(L b).length<=1000) :
  ∀ (k i:Nat),(L a).length-i=k->i<=(L a).length->i<=(L b).length->f69_L0 Qb lo (.p (eSl a)) (.p (eSl b)) (.p (pI (i:Nat))) σ=some (.p (pI (Ug ((L a).drop i) ((L b).drop i))),σ):=by
 have fin:∀ (i:Nat),i<=(L a).length->i<=(L b).length->((L a).length<=i\/(L b).length<=i)->(
   (len PP 22 (.p (eSl a)) σ).bind fun x40=>
   (len PP 22 (.p (eSl b)) σ).bind fun x42=>
   (binOp PP .gtr 3 x40 x42).bind fun x43=>
   (Qg CC (DV.fn 36 []) [x43] σ).bind fun x44=>
   (len PP 22 (.p (eSl a)) σ).bind fun x46=>
   (len PP 22 (.p (eSl b)) σ).bind fun x48=>
   (binOp PP .lss 3 x46 x48).bind fun x49=>
   (Qg CC (DV.fn 36 []) [x49] σ).bind fun x50=>
   (binOp PP .sub 3 x44 x50).bind fun x51=>
   some (x51,σ))=some (.p (pI (Ug ((L a).drop i) ((L b).drop i))),σ):=by
  intro i h1 h2 h
  rw [firstI_nil _ _ (h.imp (fun h=>List.drop_eq_nil_of_le h) fun h=>List.drop_eq_nil_of_le h)]
  simp only [QZ,Qz,Zh,Qn,Qi,List.append_nil,S36,WD,List.length_drop,decide_eq_true_eq]
  have e1:((((L a).length:Nat):Int)>((L b).length:Nat))↔(L a).length-i>(L b).length-i:=by omega
  have e2:((((L a).length:Nat):Int)<((L b).length:Nat))↔(L a).length-i<(L b).length-i:=by omega
  simp only [e1,e2]
  rw [QE]
  ·split <;> split <;> simp
  ·split <;> split <;> simp
 intro k
 induction k with
 | zero=>
  intro i hk hi hj
  have h':¬ (i:Int)<((L a).length:Nat):=by omega
  rw [f69_L0_eq Qb rfl]
  simp only [QZ a,Qn,Qz,h',decide_false,ZB,ZM,QD,Qw]
  have:=fin i hi hj (.inl (by omega))
  simpa only [QZ a,Qn,Qz] using this
 | succ k ih=>
  intro i hk hi hj
  have h:i<(L a).length:=by omega
  have h':(i:Int)<((L a).length:Nat):=by omega
  rw [f69_L0_eq Qb rfl]
  simp only [QZ a,Qn,Qz,h',decide_true,ZB,ZL,QZ b,QH]
  by_cases hb2:i<(L b).length
  ·have hb':(i:Int)<((L b).length:Nat):=by omega
   simp only [hb',decide_true,QA,ZS h,ZS hb2,QF,ZG h,ZG hb2,Qz,Wh]
   rw [Wz h,Wz hb2]
   by_cases e:(L a)[i]=(L b)[i]
   ·simp only [e,decide_true,Bool.not_true,Qw,Wa,Qz,Zn (show i<=1000000 by omega),Ug,if_true]
    exact ih (i+1) (by omega) (by omega) (by omega)
   ·simp only [e,decide_false,Bool.not_false,QA,Qi,List.append_nil,Qn,S36,Qz,b_mul,WD,Ug,if_false,decide_eq_true_eq]
    by_cases e2:(L a)[i]<(L b)[i]
    ·simp [e2,QE]
    ·simp [e2,QE]
  ·have hb':¬ (i:Int)<((L b).length:Nat):=by omega
   simp only [hb',decide_false,Qw]
   have:=fin i hi hj (.inr (by omega))
   simpa only [QZ a,QZ b,Qn,Qz] using this
theorem S69 {a b:Option (List Int)} {σ:Qa} (ha:(L a).length<=1000) (hb:(L b).length<=1000):Qv CC 69 [.p (eSl a),.p (eSl b)] σ=some (.p (pI (Ug (L a) (L b)))):=by
 refine Qk (by simp [Zf]) rfl (F69_call (r:=(.p (pI (Ug (L a) (L b))),[])) ?_) rfl
 rw [F69_eq]
 have:=L69 (lo:=0) (σ:=[]) ha hb _ 0 rfl (Nat.zero_le _) (Nat.zero_le _)
 simpa using this
theorem load69_D {l:List Edg} {i:Nat} (h:i<l.length) (σ:Qa):(Wl σ 3 (.pptr (Zd l) (i*3))).map DV.agg=some (.agg (edgD (l.getD i default))):=by
 rw [load69_edgs h,List.getD_eq_getElem?_getD,List.getElem?_eq_getElem h]; rfl
theorem L90 {o:Option (List Edg)} {f:FuncId} {caps:List DV} {σ:Qa} {lo:Nat} {q:Edg->Bool} (hl:(L o).length<=10000) (hq:∀ e,Qv CC f (.agg (edgD e)::caps) σ=some (.p (.bool (q e)))) :
  ∀ (k i:Nat),(L o).length-i=k->i<=(L o).length->f90_L0 Qb lo (.p (eEs o)) (.fn f caps) (.p (pI ((L o).length:Nat))) (.p (pI (i:Nat))) σ=some (.p (pI (QG q ((L o).drop i) i)),σ)
 | 0,i,hk,hi=>by
  have:i=(L o).length:=by omega
  rw [f90_L0_eq Qb rfl]
  subst this
  simp [Qn,Qw,QG]
 | k+1,i,hk,hi=>by
  have h:i<(L o).length:=by omega
  have h':(i:Int)<((L o).length:Nat):=by omega
  rw [f90_L0_eq Qb rfl]
  have e0:(L o).getD i default=(L o)[i]:=by rw [List.getD_eq_getElem?_getD,List.getElem?_eq_getElem h]; rfl
  simp only [Qn,Qz,h',decide_true,QA,Uq h,UC,load69_D h,e0,Qi,List.singleton_append,hq]
  rw [Wz h]
  cases hqv:q (L o)[i] with
  | true=>simp [QA,QG,hqv]
  | false=>
   simp only [Qw,Wa,Qz,Zn (show i<=1000000 by omega),QG,hqv,Bool.false_eq_true,if_false]
   exact L90 hl hq k (i+1) (by omega) (by omega)
theorem S90 {o:Option (List Edg)} {f:FuncId} {caps:List DV} {σ:Qa} {q:Edg->Bool} (hl:(L o).length<=10000) (hq:∀ σ0,AtSt caps σ σ0->∀ e,Qv CC f (.agg (edgD e)::caps) σ0=some (.p (.bool (q e)))) :
  Qv CC 90 [.p (eEs o),.fn f caps] σ=some (.p (pI (QG q (L o) 0))):=by
 refine WT (by simp [es_view,fn_view]) fun lo σ0 hs=>⟨_,σ0,F90_call (r:=(.p (pI (QG q (L o) 0)),σ0)) ?_,rfl⟩
 have hat:AtSt caps σ σ0:=by
  rcases hs with ⟨h1,_,h3⟩ | ⟨h1,_,_⟩
  ·exact .inl ⟨h1,by simpa [Zt] using (by simpa [Zt] using h3:_/\_).2⟩
  ·exact .inr h1
 rw [F90_eq]
 simp only [Ww,Qz]
 have:=L90 (lo:=lo) hl (hq σ0 hat) _ 0 rfl (Nat.zero_le _)
 simpa using this
theorem S100 {o:Option (List Edg)} {f:FuncId} {caps:List DV} {σ:Qa} {q:Edg->Bool} (hl:(L o).length<=10000) (hq:∀ σ0,AtSt caps σ σ0->∀ e,Qv CC f (.agg (edgD e)::caps) σ0=some (.p (.bool (q e)))) :
  Qv CC 100 [.p (eEs o),.fn f caps] σ=some (.p (.bool ((L o).any q))):=by
 refine WT (by simp [es_view,fn_view]) fun lo σ0 hs=>⟨_,σ0,F100_call (r:=(.p (.bool ((L o).any q)),σ0)) ?_,rfl⟩
 have hat:∀ σ1,AtSt caps σ0 σ1->AtSt caps σ σ1:=by
  intro σ1 h
  rcases hs with ⟨h1,_,h3⟩ | ⟨h1,_,_⟩
  ·rcases h with h | h
   ·exact .inl h
   ·exact .inl ⟨h.trans h1,by simpa [Zt] using (by simpa [Zt] using h3:_/\_).2⟩
  ·rw [<-h1]; exact h
 rw [F100_eq]
 simp only [Qi,List.append_nil,S90 hl fun σ1 h=>hq σ1 (hat σ1 h),Qz,Zj,idxFrom_ge]
abbrev pred (n:Int):Int:=IntKind.wrap .i64 (n-1)
theorem S118 {σ:Qa} {r:Nat} {g:Gr} {v:Int} (h:σ[r]?=some (.mix (eGr g))):Qv CC 118 [.p (pI v),.ptr r 0] σ=some (.p (.bool (inR v 0 (pred g.n)))):=by
 refine Wp rfl rfl (F118_call (r:=(.p (.bool (inR v 0 (pred g.n))),σ)) ?_) rfl
 rw [F118_eq]
 simp only [We,QJ,Qz,QF,Qc (off:=0+0) h rfl,WD,Qi,List.append_nil,S88]
def okI (n:Int) (l:List Int) (i:Nat):Bool:=inR (l.getD i 0) 0 (pred n)&&(decide (i=0)||decide (l.getD (i-1) 0<l.getD i 0))
def okE (n:Int) (l:List Edg) (i:Nat):Bool:=inR (l.getD i default).f 0 (pred n)&&(inR (l.getD i default).t 0 (pred n)&&(inR (l.getD i default).a 0 11&&(decide (i=0)||decide (ordE (l.getD (i-1) default) (l.getD i default)<0))))
def QK (p:Nat->Bool):Nat->Nat->Bool
 | _,0=>true
 | i,k+1=>p i&&QK p (i+1) k
def isG (g:Gr):Bool:=inR g.n 0 400&&decide ((L g.edges).length<=2000)&&QK (okI g.n (L g.init)) 0 (L g.init).length&&QK (okE g.n (L g.edges)) 0 (L g.edges).length
theorem L96_0 {g:Gr} {σ:Qa} {lo:Nat} (hg:σ[0]?=some (.mix (eGr g))) (hl:(L g.init).length<=1000) :
  ∀ (k i:Nat) (b:Bool),(L g.init).length-i=k->i<=(L g.init).length->f96_L0 Qb lo (.ptr 0 0) (.fn 118 [.ptr 0 0]) (.p (.bool b)) (.p (eSl g.init)) (.p (pI ((L g.init).length:Nat))) (.p (pI (i:Nat))) σ =
   f96_L1 Qb lo (.ptr 0 0) (.fn 118 [.ptr 0 0]) (.p (.bool (b&&QK (okI g.n (L g.init)) i k))) (.p (eEs g.edges)) (.p (pI ((L g.edges).length:Nat))) (.p (pI (0:Nat))) σ
 | 0,i,b,hk,hi=>by
  have:¬ (i:Int)<((L g.init).length:Nat):=by omega
  rw [f96_L0_eq Qb rfl]
  simp only [Qn,Qz,this,decide_false,Qw,Zg,QJ,Zc,Qc (off:=0+2) hg rfl,Ww,QK,Bool.and_true]
  rfl
 | k+1,i,b,hk,hi=>by
  have h:i<(L g.init).length:=by omega
  have h':(i:Int)<((L g.init).length:Nat):=by omega
  rw [f96_L0_eq Qb rfl]
  simp only [Qn,Qz,h',decide_true,QA,ZS h,QF,QC h]
  have ih:=fun b=>L96_0 (lo:=lo) hg hl k (i+1) b (by omega) (by omega)
  cases b with
  | false=>
   simp only [ZB,ZM,Zq,QD,Qz,Wa,Zn (show i<=1000000 by omega),Bool.false_and]
   rw [ih]
   simp
  | true=>
   simp only [ZB,ZL,Qi,List.singleton_append,S118 hg,Qz,QH,QK,okI]
   cases hst:inR ((L g.init).getD i 0) 0 (pred g.n) with
   | false=>
    simp only [ZB,ZM,Zq,QD,Qz,Wa,Zn (show i<=1000000 by omega),Bool.false_and,Bool.and_false]
    rw [ih]
    simp
   | true=>
    simp only [ZB,ZL,QV,Qz]
    by_cases h0:i=0
    ·have hd:decide ((i:Int)=0)=true:=by simp [h0]
     simp only [hd,ZB,WN,Zq,Qz,QH,Wa,Zn (show i<=1000000 by omega)]
     rw [ih]
     simp [h0]
    ·have h0':¬ (i:Int)=0:=by omega
     simp only [h0',decide_false,ZB,WO,Qz,WE,QJ,QO,Qc (off:=0+1) hg rfl,WD,wrap_pred (show 0<i by omega) (show i<=1000000 by omega),ZS (show i-1<(L g.init).length by omega),QF,QC (show i-1<(L g.init).length by omega),Qn,QD,QH,Wa,Zn (show i<=1000000 by omega)]
     rw [ih]
     simp [h0]
theorem store_new69 (σ:Qa) (e:Edg) (z:List DV) (hz:z.length=3):store PP 0 69 (.ptr σ.length 0) (.agg (edgD e)) (σ++[.mix z])=some (σ++[.mix (edgD e)]):=by
 have hone:(edgD e).all DV.one=true:=rfl
 have hs:QS z 0 (edgD e)=edgD e:=by
  match z,hz with
  | [a,b,c],_=>rfl
 simp [store,s69,DV.cells,Zo,hone,edgD,hz]
 exact ⟨⟨rfl,rfl,rfl⟩,by simpa [edgD] using hs⟩
theorem L96_1 {g:Gr} (hl:(L g.edges).length<=10000) :
  ∀ (k i:Nat) (b:Bool) (σ:Qa),σ[0]?=some (.mix (eGr g))->(L g.edges).length-i=k->i<=(L g.edges).length->∃ σ',f96_L1 Qb 0 (.ptr 0 0) (.fn 118 [.ptr 0 0]) (.p (.bool b)) (.p (eEs g.edges)) (.p (pI ((L g.edges).length:Nat))) (.p (pI (i:Nat))) σ =
   some (.p (.bool (b&&QK (okE g.n (L g.edges)) i k)),σ')
 | 0,i,b,σ,hg,hk,hi=>by
  have:¬ (i:Int)<((L g.edges).length:Nat):=by omega
  refine ⟨σ,?_⟩
  rw [f96_L1_eq Qb rfl]
  simp only [Qn,Qz,this,decide_false,Qw,QK,Bool.and_true]
 | k+1,i,b,σ,hg,hk,hi=>by
  have h:i<(L g.edges).length:=by omega
  have h':(i:Int)<((L g.edges).length:Nat):=by omega
  rw [f96_L1_eq Qb rfl]
  have hg1:(σ++[Row.mix (edgD ((L g.edges).getD i default))])[0]?=some (.mix (eGr g)):=QM hg
  have hx:(σ++[Row.mix (edgD ((L g.edges).getD i default))])[σ.length]?=some (.mix (edgD ((L g.edges).getD i default))):=QB
  have ih:=fun b=>L96_1 hl k (i+1) b _ hg1 (by omega) (by omega)
  simp only [Qn,Qz,h',decide_true,QA,Uq h,UC,load69_D h,Us,store_new69 σ ((L g.edges).getD i default) [.p (pI 0),.p (pI 0),.p (pI 0)] rfl]
  generalize hρ:σ++[Row.mix (edgD ((L g.edges).getD i default))]=ρ at *
  have w:IntKind.wrap .i64 ((i:Int)+1)=((i+1:Nat):Int):=Zn (by omega)
  cases b with
  | false=>
   simp only [ZB,ZM,Zq,QD,Qz,Wa,w,Bool.false_and]
   obtain ⟨σ',h1⟩:=ih false
   exact ⟨σ',by rw [h1]; simp⟩
  | true=>
   simp only [ZB,ZL,VY,VN,VD,QJ,Qz,QF,Qc (off:=0+0) hx rfl,Qi,List.singleton_append,S118 hg1,QH,QK,okE]
   cases h1:inR ((L g.edges).getD i default).f 0 (pred g.n) with
   | false=>
    simp only [ZB,ZM,Zq,QD,Qz,Wa,w,Bool.false_and,Bool.and_false]
    obtain ⟨σ',h1⟩:=ih false
    exact ⟨σ',by rw [h1]; simp⟩
   | true=>
    simp only [ZB,ZL,Qz,Qc (off:=0+1) hx rfl,Qi,List.singleton_append,S118 hg1,QH]
    cases h2:inR ((L g.edges).getD i default).t 0 (pred g.n) with
    | false=>
     simp only [ZB,ZM,Zq,QD,Qz,Wa,w,Bool.false_and,Bool.and_false,Bool.true_and]
     obtain ⟨σ',h1⟩:=ih false
     exact ⟨σ',by rw [h1]; simp⟩
    | true=>
     simp only [ZB,ZL,Qz,Qc (off:=0+2) hx rfl,Qi,List.append_nil,S88,QH]
     cases h3:inR ((L g.edges).getD i default).a 0 11 with
     | false=>
      simp only [ZB,ZM,Zq,QD,Qz,Wa,w,Bool.false_and,Bool.and_false,Bool.true_and]
      obtain ⟨σ',h1⟩:=ih false
      exact ⟨σ',by rw [h1]; simp⟩
     | true=>
      simp only [ZB,ZL,QV,Qz]
      by_cases h0:i=0
      ·have hd:decide ((i:Int)=0)=true:=by simp [h0]
       simp only [hd,ZB,WN,Zq,Qz,QH,Wa,w]
       obtain ⟨σ',h1⟩:=ih true
       exact ⟨σ',by rw [h1]; simp [h0]⟩
      ·have h0':¬ (i:Int)=0:=by omega
       have hi1:i-1<(L g.edges).length:=by omega
       simp only [h0',decide_false,ZB,WO,Qz,Zg,QJ,Zc,Qc (off:=0+2) hg1 rfl,WD,wrap_pred (show 0<i by omega) (show i<=1000000 by omega),Uq hi1,load69_D hi1,
        QI (off:=0) (n:=3) (vs:=edgD ((L g.edges).getD i default)) hx rfl (by simp [edgD]),omap,Qi,List.append_nil,S119,Qn,QD,QH,Wa,w]
       obtain ⟨σ',h1⟩:=ih (decide (ordE ((L g.edges).getD (i-1) default) ((L g.edges).getD i default)<0))
       exact ⟨σ',by rw [h1]; simp [h0]⟩
theorem Zr (g:Gr):boxV (.agg (eGr g))=some (eGr g):=rfl
theorem Zz (g:Gr):view (.agg (eGr g))=.agg (eGr g):=by simp [view,Zw,eGr,ZO,WU,Zs]
theorem S96 {g:Gr} {σ:Qa} (hl:(L g.init).length<=1000) (hl2:(L g.edges).length<=10000):Qv CC 96 [.agg (eGr g)] σ=some (.p (.bool (isG g))):=by
 have g0:([Row.mix (eGr g)]:Qa)[0]?=some (.mix (eGr g)):=rfl
 have key:∀ b,∃ σ',f96_L0 Qb 0 (.ptr 0 0) (.fn 118 [.ptr 0 0]) (.p (.bool b)) (.p (eSl g.init)) (.p (pI ((L g.init).length:Nat))) (.p (pI (0:Nat))) [Row.mix (eGr g)]=some (.p (.bool (b&&QK (okI g.n (L g.init)) 0 (L g.init).length&&QK (okE g.n (L g.edges)) 0 (L g.edges).length)),σ'):=by
  intro b
  rw [L96_0 g0 hl _ 0 b rfl (Nat.zero_le _)]
  exact L96_1 hl2 _ 0 _ _ g0 rfl (Nat.zero_le _)
 refine WT (by simp [Zz]) fun lo σ0 hs=>?_
 rcases hs with ⟨rfl,rfl,_⟩ | ⟨_,_,h⟩
 case inr=>exact absurd h (by simp [Zt,ZT,eGr])
 have hF:∃ σ',F96 Qb 0 (.agg (eGr g)) []=some (.p (.bool (isG g)),σ'):=by
  rw [F96_eq]
  simp only [Zr,Qz,List.length_nil,List.nil_append,We,WE,Zg,QJ,QF,QO,Zc,Qc (off:=0+0) g0 rfl,Qc (off:=0+1) g0 rfl,Qc (off:=0+2) g0 rfl,Qi,List.append_nil,S88,QZ,Ww]
  cases h1:inR g.n 0 400 with
  | false=>
   simp only [ZB,ZM,Zq,QD,Qz,Qc (off:=0+1) g0 rfl,QZ]
   obtain ⟨σ',h⟩:=key false
   exact ⟨σ',by simpa [isG,h1] using h⟩
  | true=>
   simp only [ZB,ZL,QH,Qz,Qc (off:=0+2) g0 rfl,Ww,QX,Qc (off:=0+1) g0 rfl,QZ]
   obtain ⟨σ',h⟩:=key (decide (((L g.edges).length:Int)<=2000))
   refine ⟨σ',?_⟩
   have e:decide (((L g.edges).length:Int)<=2000)=decide ((L g.edges).length<=2000):=by
    simp only [decide_eq_decide]; omega
   rw [e] at h ⊢
   simpa [isG,h1,Bool.and_assoc] using h
 obtain ⟨σ',h⟩:=hF
 exact ⟨_,σ',F96_call h,rfl⟩
theorem allFrom_iff {p:Nat->Bool}:∀ (k i:Nat),QK p i k=true↔∀ j,i<=j->j<i+k->p j=true
 | 0,i=>by simp [QK]; omega
 | k+1,i=>by
  simp only [QK,Bool.and_eq_true,allFrom_iff k (i+1)]
  constructor
  ·rintro ⟨h1,h2⟩ j hj hk
   rcases Nat.eq_or_lt_of_le hj with e | e
   ·rw [<-e]; exact h1
   ·exact h2 j e (by omega)
  ·intro h
   exact ⟨h i (Nat.le_refl _) (by omega),fun j hj hk=>h j (by omega) (by omega)⟩
theorem ordE_first (a b:Edg):decide (Ug [a.f,a.t,a.a] [b.f,b.t,b.a]>=0) = !decide (ordE a b<0):=by
 simp only [Ug,ordE,orL,cmpI,List.length_nil]
 by_cases h1:a.f<b.f
 ·have:¬ a.f=b.f:=by omega
  simp [h1,this]
 ·by_cases h2:a.f>b.f
  ·have:¬ a.f=b.f:=by omega
   simp [h1,h2,this]
  ·have e1:a.f=b.f:=by omega
   by_cases h3:a.t<b.t
   ·have:¬ a.t=b.t:=by omega
    simp [h3,this,e1]
   ·by_cases h4:a.t>b.t
    ·have:¬ a.t=b.t:=by omega
     simp [h3,h4,this,e1]
    ·have e2:a.t=b.t:=by omega
     by_cases h5:a.a<b.a
     ·have:¬ a.a=b.a:=by omega
      simp [h5,this,e1,e2]
     ·by_cases h6:a.a>b.a
      ·have:¬ a.a=b.a:=by omega
       simp [h5,h6,this,e1,e2]
      ·have e3:a.a=b.a:=by omega
       simp [e1,e2,e3]
theorem L56_1 {g:Gr} (hl:(L g.edges).length<=10000) :
  ∀ (k i:Nat) (σ:Qa),σ[0]?=some (.mix (eGr g))->(L g.edges).length-i=k->i<=(L g.edges).length->∃ σ',f56_L1 Qb 0 (.ptr 0 0) (.p (pI (i:Nat))) σ =
   some (.p (.bool (QK (okE g.n (L g.edges)) i k)),σ')
 | 0,i,σ,hg,hk,hi=>by
  have:¬ (i:Int)<((L g.edges).length:Nat):=by omega
  refine ⟨σ,?_⟩
  rw [f56_L1_eq Qb rfl]
  simp only [Zg,QJ,Zc,Qc (off:=0+2) hg rfl,Ww,Qn,Qz,this,decide_false,Qw,QK]
 | k+1,i,σ,hg,hk,hi=>by
  have h:i<(L g.edges).length:=by omega
  have h':(i:Int)<((L g.edges).length:Nat):=by omega
  rw [f56_L1_eq Qb rfl]
  have hg1:(σ++[Row.mix (edgD ((L g.edges).getD i default))])[0]?=some (.mix (eGr g)):=QM hg
  have hx:(σ++[Row.mix (edgD ((L g.edges).getD i default))])[σ.length]?=some (.mix (edgD ((L g.edges).getD i default))):=QB
  have ih:=L56_1 hl k (i+1) _ hg1 (by omega) (by omega)
  simp only [Zg,QJ,Zc,Qc (off:=0+2) hg rfl,Ww,Qn,Qz,h',decide_true,QA,Uq h,UC,load69_D h,Us,store_new69 σ ((L g.edges).getD i default) [.p (pI 0),.p (pI 0),.p (pI 0)] rfl]
  generalize hρ:σ++[Row.mix (edgD ((L g.edges).getD i default))]=ρ at *
  have w:IntKind.wrap .i64 ((i:Int)+1)=((i+1:Nat):Int):=Zn (by omega)
  simp only [VY,VN,VD,We,QJ,Qz,QF,Qc (off:=0+0) hx rfl,Qc (off:=0+0) hg1 rfl,WD,Qi,List.append_nil,S61,ZD,QK,okE]
  cases h1:inR ((L g.edges).getD i default).f 0 (pred g.n) with
  | false=>exact ⟨ρ,by simp only [Bool.not_false,ZB,WN,Zq,QH,Qz,QA,Bool.false_and]⟩
  | true=>
   simp only [Bool.not_true,ZB,WO,Qz,Qc (off:=0+1) hx rfl,Qc (off:=0+0) hg1 rfl,WD,Qi,List.append_nil,S61,ZD,QD,QJ,We,QF]
   cases h2:inR ((L g.edges).getD i default).t 0 (pred g.n) with
   | false=>exact ⟨ρ,by simp only [Bool.not_false,ZB,WN,Zq,QH,Qz,QA,Bool.false_and,Bool.and_false]⟩
   | true=>
    simp only [Bool.not_true,ZB,WO,Qz,Qc (off:=0+2) hx rfl,Qi,List.append_nil,S61,ZD,QD,QJ,QF]
    cases h3:inR ((L g.edges).getD i default).a 0 11 with
    | false=>exact ⟨ρ,by simp only [Bool.not_false,ZB,WN,Zq,QH,Qz,QA,Bool.false_and,Bool.and_false]⟩
    | true=>
     simp only [Bool.not_true,ZB,WO,Qz,Zh,QD]
     by_cases h0:i=0
     ·have hd:decide ((i:Int)>0)=false:=by simp [h0]
      simp only [hd,ZB,ZM,Zq,QD,Qz,Qw,Wa,w]
      obtain ⟨σ',h4⟩:=ih
      exact ⟨σ',by rw [h4]; simp [h0]⟩
     ·have hd:decide ((i:Int)>0)=true:=by simp; omega
      have hi1:i-1<(L g.edges).length:=by omega
      simp only [hd,ZB,ZL,Qz,Qc (off:=0+2) hg1 rfl,QJ,Zc,WD,wrap_pred (show 0<i by omega) (show i<=1000000 by omega),Uq hi1,load69_D hi1,Qi,List.append_nil,S92,
       QI (off:=0) (n:=3) (vs:=edgD ((L g.edges).getD i default)) hx rfl (by simp [edgD]),omap]
      rw [S69 (by simp) (by simp)]
      simp only [Qz,Zj,QH,Option.getD_some,ordE_first]
      cases h5:decide (ordE ((L g.edges).getD (i-1) default) ((L g.edges).getD i default)<0) with
      | false=>exact ⟨ρ,by simp only [Bool.not_false,QA]; simp [h0]⟩
      | true=>
       simp only [Bool.not_true,Qw,Wa,Qz,w]
       obtain ⟨σ',h4⟩:=ih
       exact ⟨σ',by rw [h4]; simp [h0]⟩
theorem L56_0 {g:Gr} {σ:Qa} (hg:σ[0]?=some (.mix (eGr g))) (hl:(L g.init).length<=1000) :
  ∀ (k i:Nat),(L g.init).length-i=k->i<=(L g.init).length->f56_L0 Qb 0 (.ptr 0 0) (.p (pI (i:Nat))) σ =
   bif QK (okI g.n (L g.init)) i k then f56_L1 Qb 0 (.ptr 0 0) (.p (pI (0:Nat))) σ else some (.p (.bool false),σ)
 | 0,i,hk,hi=>by
  have:¬ (i:Int)<((L g.init).length:Nat):=by omega
  rw [f56_L0_eq Qb rfl]
  simp only [WE,QJ,QO,Qc (off:=0+1) hg rfl,QZ,Qn,Qz,this,decide_false,Qw,QK,cond_true]
  rfl
 | k+1,i,hk,hi=>by
  have h:i<(L g.init).length:=by omega
  have h':(i:Int)<((L g.init).length:Nat):=by omega
  have ih:=L56_0 hg hl k (i+1) (by omega) (by omega)
  rw [f56_L0_eq Qb rfl]
  simp only [We,WE,QJ,QO,Qc (off:=0+1) hg rfl,QZ,Qn,Qz,h',decide_true,QA,ZS h,QF,QC h,Qc (off:=0+0) hg rfl,WD,Qi,List.append_nil,S61,ZD,QK,okI]
  cases hst:inR ((L g.init).getD i 0) 0 (pred g.n) with
  | false=>simp only [Bool.not_false,ZB,WN,Zq,QH,Qz,QA,Bool.false_and,cond_false]
  | true=>
   simp only [Bool.not_true,ZB,WO,Qz,Zh]
   by_cases h0:i=0
   ·have hd:decide ((i:Int)>0)=false:=by simp [h0]
    simp only [hd,ZB,ZM,Zq,Qz,QD,Qw,Wa,Zn (show i<=1000000 by omega)]
    rw [ih]
    simp [h0]
   ·have hd:decide ((i:Int)>0)=true:=by simp; omega
    have hi1:i-1<(L g.init).length:=by omega
    simp only [hd,ZB,ZL,Qz,WE,QJ,QO,Qc (off:=0+1) hg rfl,ZS h,QF,QC h,WD,wrap_pred (show 0<i by omega) (show i<=1000000 by omega),ZS hi1,QC hi1,QX,QD,QH]
    by_cases hlt:(L g.init).getD (i-1) 0<(L g.init).getD i 0
    ·have hle:¬ (L g.init).getD i 0<=(L g.init).getD (i-1) 0:=by omega
     simp only [hle,hlt,decide_false,decide_true,Qw,Wa,Qz,Zn (show i<=1000000 by omega),Bool.or_true,Bool.true_and]
     exact ih
    ·have hle:(L g.init).getD i 0<=(L g.init).getD (i-1) 0:=by omega
     simp only [hle,hlt,decide_false,decide_true,QA,Bool.or_false,h0,Bool.true_and,Bool.false_and,cond_false]
theorem init_le {g:Gr} (hn:inR g.n 0 400=true) (h:QK (okI g.n (L g.init)) 0 (L g.init).length=true):((L g.init).length:Int)<=g.n:=by
 have h1:=(allFrom_iff _ _).1 h
 have hn':0<=g.n/\g.n<=400:=by simpa [inR] using hn
 have hp:pred g.n=g.n-1:=QE (by omega) (by omega)
 have key:∀ i,i<(L g.init).length->(i:Int)<=(L g.init).getD i 0/\(L g.init).getD i 0<=g.n-1:=by
  intro i
  induction i with
  | zero=>
   intro hi
   have:=h1 0 (Nat.le_refl _) (by omega)
   simp only [okI,hp,inR,Bool.and_eq_true,decide_eq_true_eq] at this
   omega
  | succ i ih=>
   intro hi
   have h2:=h1 (i+1) (by omega) (by omega)
   have h3:=ih (by omega)
   simp only [okI,hp,inR,Bool.and_eq_true,Bool.or_eq_true,decide_eq_true_eq,Nat.add_sub_cancel] at h2
   omega
 rcases Nat.eq_zero_or_pos (L g.init).length with e | e
 ·omega
 ·have:=key ((L g.init).length-1) (by omega)
  omega
theorem S56 {g:Gr} {σ:Qa} (hl:(L g.init).length<=1000) (hl2:(L g.edges).length<=10000):Qv CC 56 [.agg (eGr g)] σ=some (.p (.bool (isG g))):=by
 have g0:([Row.mix (eGr g)]:Qa)[0]?=some (.mix (eGr g)):=rfl
 refine WT (by simp [Zz]) fun lo σ0 hs=>?_
 rcases hs with ⟨rfl,rfl,_⟩ | ⟨_,_,h⟩
 case inr=>exact absurd h (by simp [Zt,ZT,eGr])
 have hF:∃ σ',F56 Qb 0 (.agg (eGr g)) []=some (.p (.bool (isG g)),σ'):=by
  rw [F56_eq]
  simp only [Zr,Qz,List.length_nil,List.nil_append,We,WE,Zg,QJ,QF,QO,Zc,Qc (off:=0+0) g0 rfl,Qi,List.append_nil,S61,ZD]
  cases h1:inR g.n 0 400 with
  | false=>exact ⟨[Row.mix (eGr g)],by simp only [Bool.not_false,ZB,WN,Zq,QH,Qz,QA,isG,h1,Bool.false_and]⟩
  | true=>
   simp only [Bool.not_true,ZB,WO,Qz,Qc (off:=0+1) g0 rfl,Qc (off:=0+0) g0 rfl,QZ,Zh,QD]
   by_cases h2:((L g.init).length:Int)>g.n
   ·have hf:isG g=false:=by
     cases hx:isG g with
     | false=>rfl
     | true=>
      simp only [isG,Bool.and_eq_true] at hx
      have:=init_le hx.1.1.1 hx.1.2
      omega
    exact ⟨[Row.mix (eGr g)],by simp only [h2,decide_true,ZB,WN,Zq,QH,Qz,QA,hf]⟩
   ·simp only [h2,decide_false,ZB,WO,Qz,Qc (off:=0+2) g0 rfl,Ww,Zh,QD]
    by_cases h3:(L g.edges).length<=2000
    ·have h3':¬ ((L g.edges).length:Int)>2000:=by omega
     simp only [h3',decide_false,Qw]
     obtain ⟨σ',h4⟩:=L56_1 hl2 _ 0 _ g0 rfl (Nat.zero_le _)
     have h5:f56_L0 Qb 0 (.ptr 0 0) (.p (pI 0)) [Row.mix (eGr g)]=bif QK (okI g.n (L g.init)) 0 (L g.init).length then f56_L1 Qb 0 (.ptr 0 0) (.p (pI (0:Nat))) [Row.mix (eGr g)] else some (.p (.bool false),[Row.mix (eGr g)]):=L56_0 g0 hl _ 0 rfl (Nat.zero_le _)
     rw [h5]
     cases h6:QK (okI g.n (L g.init)) 0 (L g.init).length with
     | false=>exact ⟨[Row.mix (eGr g)],by simp [isG,h6]⟩
     | true=>
      rw [cond_true,h4]
      exact ⟨σ',by simp [isG,h1,h3,h6]⟩
    ·have h3':((L g.edges).length:Int)>2000:=by omega
     exact ⟨[Row.mix (eGr g)],by simp only [h3',decide_true,QA]; simp [isG,h3]⟩
 obtain ⟨σ',h⟩:=hF
 exact ⟨_,σ',F56_call h,rfl⟩
theorem len143 (o:Option (List Int)) (σ:Qa):len PP 143 (.p (eSl o)) σ=some (.p (.int .i64 ((L o).length:Nat))):=by cases o <;> simp [len,u143,eSl]
theorem idx143 {o:Option (List Int)} {i:Nat} (h:i<(L o).length):indexAddr PP 143 (.p (eSl o)) (.p (.int .i64 (i:Nat)))=some (.pptr (Qr (L o)) i):=by
 cases o with
 | none=>simp at h
 | some l=>
  have h2:(0:Int)<=(i:Int)/\(i:Int)<(l.length:Nat):=by simp at h; omega
  simp [indexAddr,u143,s34,eSl,h2]
theorem L53 {o:Option (List Int)} {σ:Qa} {lo:Nat} (hl:(L o).length<=1000) :
  ∀ (k i:Nat),(L o).length-i=k->i<=(L o).length->f53_L0 Qb lo (.p (eSl o)) (.p (pI ((L o).length:Nat))) (.p (pI (i:Nat))) σ=some (.p (pI (orL ((L o).drop i))),σ)
 | 0,i,hk,hi=>by
  have:i=(L o).length:=by omega
  rw [f53_L0_eq Qb rfl]
  subst this
  simp [Qn,Qw,orL]
 | k+1,i,hk,hi=>by
  have h:i<(L o).length:=by omega
  have h':(i:Int)<((L o).length:Nat):=by omega
  rw [f53_L0_eq Qb rfl]
  simp only [Qn,Qz,h',decide_true,QA,idx143 h,load34,ZG h,Wh]
  rw [Wz h]
  by_cases hqv:(L o)[i]=0
  ·simp only [hqv,decide_true,Bool.not_true,Qw,Wa,Qz,Zn (show i<=1000000 by omega),orL,if_true]
   exact L53 hl k (i+1) (by omega) (by omega)
  ·simp [QA,orL,hqv]
theorem S53 {o:Option (List Int)} {σ:Qa} (hl:(L o).length<=1000):Qv CC 53 [.p (eSl o)] σ=some (.p (pI (orL (L o)))):=by
 refine Qk (by simp [Zf]) rfl (F53_call (r:=(.p (pI (orL (L o))),[])) ?_) rfl
 rw [F53_eq]
 simp only [len143,Qz]
 have:=L53 (lo:=0) (σ:=[]) hl _ 0 rfl (Nat.zero_le _)
 simpa using this
theorem bs143_3 (x y z:Int) (σ:Qa):buildSlice PP none 143 3 [(0,.p (pI x)),(1,.p (pI y)),(2,.p (pI z))] σ=some (.p (.sl true 3 (Qr [x,y,z])),σ):=Eq.trans (by kernel_rfl) rfl
theorem S53t {l:List Int} {n:Nat} {σ:Qa} (hn:n=l.length) (hl:l.length<=1000):Qv CC 53 [.p (.sl true n (Qr l))] σ=some (.p (pI (orL l))):=by
 rw [Wc (args':=[.p (eSl (some l))]) (by subst hn; simp [view,Zw,Zs,Zu,eSl]) (by simp [Zf])]
 exact S53 (o:=some l) hl
theorem S87 {σ:Qa} {r:Nat} {g:Gr} {v:Int} (h:σ[r]?=some (.mix (eGr g))):Qv CC 87 [.p (pI v),.ptr r 0] σ=some (.p (.bool (!inR v 0 (pred g.n)))):=by
 refine Wp rfl rfl (F87_call (r:=(.p (.bool (!inR v 0 (pred g.n))),σ)) ?_) rfl
 rw [F87_eq]
 simp only [We,QJ,Qz,QF,Qc (off:=0+0) h rfl,WD,Qi,List.append_nil,S88,ZD]
def VK (s t:Int) (e:Edg):Bool:=decide (e.f=s)&&decide (e.t=t)
theorem S91 {σ:Qa} {r1 r2:Nat} {s t:Int} {e:Edg} (h1:σ[r1]?=some (.mix [.p (pI s)])) (h2:σ[r2]?=some (.mix [.p (pI t)])):Qv CC 91 [.agg (edgD e),.ptr r1 0,.ptr r2 0] σ=some (.p (.bool (VK s t e))):=by
 refine Wp rfl rfl (F91_call (r:=(.p (.bool (VK s t e)),σ++[.mix (edgD e)])) ?_) rfl
 rw [F91_eq]
 have hx:(σ++[Row.mix (edgD e)])[σ.length]?=some (.mix (edgD e)):=QB
 have h1':(σ++[Row.mix (edgD e)])[r1]?=some (.mix [.p (pI s)]):=QM h1
 have h2':(σ++[Row.mix (edgD e)])[r2]?=some (.mix [.p (pI t)]):=QM h2
 simp only [box_edg,Qz,VY,VN,QJ,QF,Qc (off:=0+0) hx rfl,Qc (off:=0) h1' rfl,QV,VK]
 by_cases e1:e.f=s
 ·simp only [e1,decide_true,ZB,ZL,Qz,Qc (off:=0+1) hx rfl,Qc (off:=0) h2' rfl,QV,QH,Bool.true_and]
 ·simp only [e1,decide_false,ZB,ZM,Zq,Qz,QD,Bool.false_and]
theorem Qu {σ:Qa} {i j:Nat} {r x:Row} (h:σ[i]?=some x) (hne:i≠j):(σ.set j r)[i]?=some x:=by
 rw [List.getElem?_set_ne (Ne.symm hne)]; exact h
theorem QT {σ:Qa} {i:Nat} {x:Row} (h:σ[i]?=some x):i<σ.length:=(List.getElem?_eq_some_iff.1 h).1
theorem L34 {a b:Option (List Int)} {σ:Qa} {lo:Nat} (h0:L a=L b) (hl:(L a).length<=1000) :
  ∀ (k i:Nat),(L a).length-i=k->i<=(L a).length->f34_L0 Qb lo (.p (eSl a)) (.p (eSl b)) (.p (pI (i:Nat))) σ=some (.p (.bool true),σ)
 | 0,i,hk,hi=>by
  have:¬ (i:Int)<((L a).length:Nat):=by omega
  rw [f34_L0_eq Qb rfl]
  simp only [QZ,Qn,Qz,this,decide_false,Qw]
 | k+1,i,hk,hi=>by
  have h:i<(L a).length:=by omega
  have hb:i<(L b).length:=by rw [<-h0]; exact h
  have h':(i:Int)<((L a).length:Nat):=by omega
  rw [f34_L0_eq Qb rfl]
  have e:(L a).getD i 0=(L b).getD i 0:=by rw [h0]
  simp only [QZ,Qn,Qz,h',decide_true,QA,ZS h,ZS hb,QF,QC h,QC hb,Wh,e,Bool.not_true,Qw,Wa,Zn (show i<=1000000 by omega)]
  exact L34 h0 hl k (i+1) (by omega) (by omega)
theorem S34 {a b:Option (List Int)} {σ:Qa} (h0:L a=L b) (hl:(L a).length<=1000):Qv CC 34 [.p (eSl a),.p (eSl b)] σ=some (.p (.bool true)):=by
 refine Qk (by simp [Zf]) rfl (F34_call (r:=(.p (.bool true),[])) ?_) rfl
 rw [F34_eq]
 have:=L34 (lo:=0) (σ:=[]) h0 hl _ 0 rfl (Nat.zero_le _)
 simp only [QZ,Qz,Wh,h0,decide_true,Bool.not_true,Qw]
 exact this
theorem VO:bytes? PP 3=some 8:=Eq.trans (by kernel_rfl) rfl
theorem bytes69:bytes? PP 69=some 24:=Eq.trans (by kernel_rfl) rfl
theorem UI:ZQ PP 22=true:=Eq.trans (by kernel_rfl) rfl
theorem src23:ZQ PP 23=true:=Eq.trans (by kernel_rfl) rfl
theorem bs22_0 (σ:Qa):buildSlice PP none 22 0 [] σ=some (.p (.sl true 0 []),σ):=Eq.trans (by kernel_rfl) rfl
theorem bs23_0 (σ:Qa):buildSlice PP none 23 0 [] σ=some (.p (.sl true 0 []),σ):=Eq.trans (by kernel_rfl) rfl
theorem ZN (cs:List PV):Vg (cs.map DV.p)=some cs:=by
 induction cs with
 | nil=>rfl
 | cons a l ih=>simp [Vg,DV.pure?,ih]
theorem app22 {o:Option (List Int)} {lo:Nat} (hl:(L o).length<=1000) (σ:Qa):append PP lo false 22 22 (.p (.sl true 0 [])) (.p (eSl o)) σ=some (if (L o).length=0 then (.p (.sl true 0 []),σ) else (.osl σ.length 0 1 (L o).length (Qr (L o)),σ++[.tok 0])):=by
 have hsrc:ZE σ 1 (.p (eSl o))=some ((L o).length,(Qr (L o)).map DV.p):=by
  cases o <;> simp [ZE,eSl,ints_length,Qr]
 have h1:(L o).length*8<=140737488355328:=by omega
 have h2:(L o).length<=140737488355328:=by omega
 simp only [append,UI,u22,s3,VO,Uy,hsrc,UT]
 simp [h1,h2,ZN]
 split <;> rfl
theorem app23 {o:Option (List Edg)} {lo:Nat} (hl:(L o).length<=10000) (σ:Qa):append PP lo false 23 23 (.p (.sl true 0 [])) (.p (eEs o)) σ=some (if (L o).length=0 then (.p (.sl true 0 []),σ) else (.osl σ.length 0 3 (L o).length (Zd (L o)),σ++[.tok 0])):=by
 have hsrc:ZE σ 3 (.p (eEs o))=some ((L o).length,(Zd (L o)).map DV.p):=by
  cases o <;> simp [ZE,eEs,edgs_length,Zd]
 have h1:(L o).length*24<=140737488355328:=by omega
 have h2:(L o).length<=140737488355328:=by omega
 simp only [append,src23,u23,s69,bytes69,Us,hsrc,UT]
 simp [h1,h2,ZN]
 split <;> rfl
theorem S16 {o:Option (List Int)} {σ:Qa} (hl:(L o).length<=1000):Qv CC 16 [.p (eSl o)] σ=some (.p (eSl (some (L o)))):=by
 refine WT (by simp [Zf]) fun lo σ0 hs=>?_
 by_cases h:(L o).length=0
 ·refine ⟨.p (.sl true 0 []),σ0,F16_call ?_,?_⟩
  ·rw [F16_eq]
   simp only [bs22_0,Qz,app22 hl,h,if_true]
  ·have:L o=[]:=List.length_eq_zero_iff.1 h
   rw [this]; rfl
 ·refine ⟨.osl σ0.length 0 1 (L o).length (Qr (L o)),σ0++[.tok 0],F16_call ?_,?_⟩
  ·rw [F16_eq]
   simp only [bs22_0,Qz,app22 hl,h,if_false]
  ·simp [Ze,Zx,thaw,Uu,Vv,Zu,eSl]
def ownG (g:Gr):Gr:=⟨g.n,some (L g.init),some (L g.edges)⟩
theorem st22_1 (a b c d:DV) (v:PV) (rest:Qa):store PP 0 22 (.ptr 0 1) (.p v) (.mix [a,b,c]::rest)=some (.mix [a,.p v,c]::rest):=Eq.trans (by kernel_rfl) rfl
theorem st23_2p (a b c:DV) (v:PV) (rest:Qa):store PP 0 23 (.ptr 0 2) (.p v) (.mix [a,b,c]::rest)=some (.mix [a,b,.p v]::rest):=Eq.trans (by kernel_rfl) rfl
theorem st23_2o (a b c:DV) (r ver sz n:Nat) (cs:List PV) (rest:Qa):store PP 0 23 (.ptr 0 2) (.osl r ver sz n cs) (.mix [a,b,c]::rest)=some (.mix [a,b,.osl r ver sz n cs]::rest):=Eq.trans (by kernel_rfl) rfl
theorem st25_p (a b c:DV) (x y z:PV) (m:Row) (rest:Qa):store PP 0 25 (.ptr 1 0) (.agg [.p x,.p y,.p z]) (m::.mix [a,b,c]::rest)=some (m::.mix [.p x,.p y,.p z]::rest):=Eq.trans (by kernel_rfl) rfl
theorem st25_o (a b c:DV) (x y:PV) (r ver sz n:Nat) (cs:List PV) (m:Row) (rest:Qa):store PP 0 25 (.ptr 1 0) (.agg [.p x,.p y,.osl r ver sz n cs]) (m::.mix [a,b,c]::rest)=some (m::.mix [.p x,.p y,.osl r ver sz n cs]::rest):=Eq.trans (by kernel_rfl) rfl
theorem ld25_0 (a b c:DV) (rest:Qa):Wl (.mix [a,b,c]::rest) 3 (.ptr 0 0)=some [a,b,c]:=Eq.trans (by kernel_rfl) rfl
theorem cv25 (a b c:DV) (m:Row) (rest:Qa):Vy PP 25 (.ptr 1 0) (m::.mix [a,b,c]::rest)=some (.agg [a,b,c]):=Eq.trans (by kernel_rfl) rfl
theorem S13 {g:Gr} {σ:Qa} (hi:(L g.init).length<=1000) (he:(L g.edges).length<=10000):Qv CC 13 [.agg (eGr g)] σ=some (.agg (eGr (ownG g))):=by
 refine WT (by simp [Zz]) fun lo σ0 hs=>?_
 rcases hs with ⟨rfl,rfl,_⟩ | ⟨_,_,h⟩
 case inr=>exact absurd h (by simp [Zt,ZT,eGr])
 have g0:∀ r,([Row.mix (eGr g),r]:Qa)[0]?=some (.mix (eGr g)):=fun _=>rfl
 by_cases h:(L g.edges).length=0
 ·refine ⟨.agg [.p (pI g.n),.p (eSl (some (L g.init))),.p (.sl true 0 [])],[.mix [.p (pI g.n),.p (eSl (some (L g.init))),.p (.sl true 0 [])],.mix [.p (pI g.n),.p (eSl (some (L g.init))),.p (.sl true 0 [])]],F13_call ?_,?_⟩
  ·rw [F13_eq]
   simp only [Zr,zero25,Qz,List.length_nil,List.nil_append,List.length_cons,List.cons_append,WE,Zg,QJ,Nat.zero_add,QO,Zc,UN,Qc (off:=1) (g0 _) rfl,Qc (off:=2) (g0 _) rfl,Qi,List.append_nil,S16 hi,bs23_0,app23 he,h,if_true]
   simp only [eGr,st22_1 _ _ _ (.p .nilsl),Qz,st23_2p,ld25_0,omap,st25_p,cv25]
  ·have:L g.edges=[]:=List.length_eq_zero_iff.1 h
   simp [Ze,Zx,mapO,thaw,Uu,Vv,Zs,QP,ZO,eGr,ownG,eEs,this,Zd]
 ·refine ⟨.agg [.p (pI g.n),.p (eSl (some (L g.init))),.osl 2 0 3 (L g.edges).length (Zd (L g.edges))],[.mix [.p (pI g.n),.p (eSl (some (L g.init))),.osl 2 0 3 (L g.edges).length (Zd (L g.edges))],.mix [.p (pI g.n),.p (eSl (some (L g.init))),.osl 2 0 3 (L g.edges).length (Zd (L g.edges))],.tok 0],F13_call ?_,?_⟩
  ·rw [F13_eq]
   simp only [Zr,zero25,Qz,List.length_nil,List.nil_append,List.length_cons,List.cons_append,WE,Zg,QJ,Nat.zero_add,QO,Zc,UN,Qc (off:=1) (g0 _) rfl,Qc (off:=2) (g0 _) rfl,Qi,List.append_nil,S16 hi,bs23_0,app23 he,h,if_false]
   simp only [eGr,st22_1 _ _ _ (.p .nilsl),Qz,st23_2o,ld25_0,omap,st25_o,cv25]
  ·simp [Ze,Zx,mapO,thaw,Uu,Vv,Zs,ZO,eGr,ownG,eEs,loosens_edgs]
theorem ex0 (a b:DV):Qj (.tuple [a,b]) 0=some a:=Eq.trans rfl rfl
theorem ex1 (a b:DV):Qj (.tuple [a,b]) 1=some b:=Eq.trans rfl rfl
theorem len22_nil (σ:Qa):len PP 22 (.p .nilsl) σ=some (.p (.int .i64 0)):=by simp [len,u22]
theorem Zp {α:Type} {l:List α} {i:Nat} (d:α) (h:i<l.length):l.getD i d=l[i]:=by rw [List.getD_eq_getElem?_getD,List.getElem?_eq_getElem h]; rfl
def Out (σ:Qa) (lo sz n:Nat) (cs:List PV) (x:DV):Prop:=
 cs.length=n*sz/\((n=0/\x=.p .nilsl)\/(n≠0/\∃ r ver,x=.osl r ver sz n cs/\σ[r]?=some (.tok ver)/\lo<=r))
def Others (σ σ':Qa) (x:DV):Prop:=∀ i row,σ[i]?=some row->(∀ r ver sz n cs,x=.osl r ver sz n cs->i≠r)->σ'[i]?=some row
theorem Out.zero {σ:Qa} {lo sz:Nat}:Out σ lo sz 0 [] (.p .nilsl):=⟨by simp,.inl ⟨rfl,rfl⟩⟩
theorem Others.mix {σ σ':Qa} {lo sz n:Nat} {cs:List PV} {x:DV} (h:Others σ σ' x) (ho:Out σ lo sz n cs x) {i:Nat} {row:Row} (hi:σ[i]?=some row) (hr:∀ v,row≠.tok v):σ'[i]?=some row:=by
 refine h i row hi ?_
 rintro r ver sz' n' cs' rfl rfl
 rcases ho.2 with ⟨_,h2⟩ | ⟨_,r2,ver2,h2,h3,_⟩
 ·cases h2
 ·injection h2 with e1
  subst e1
  rw [hi] at h3
  injection h3 with h3
  exact hr _ h3
theorem Out.push {σ:Qa} {t e lo sz b n:Nat} {z:List DV} {cs vs:List PV} {x:DV} (hs:ZQ PP t=true) (hu:PP.underlying t=some (.slice e)) (h1:size? PP e=some sz) (h2:bytes? PP e=some b) (h3:Qx PP e=some z)
  (h4:z.length=sz) (hz:0<sz) (hb:0<b) (hb2:b<=1000) (hv:vs.length=sz) (ho:Out σ lo sz n cs x) (hn:n<=1000000) (hlo:lo<=σ.length) :
  ∃ x' σ',append PP lo false t t x (.p (.sl true 1 vs)) σ=some (x',σ')/\Out σ' lo sz (n+1) (cs++vs) x'/\Others σ σ' x/\σ.length<=σ'.length:=by
 have hsrc:ZE σ sz (.p (.sl true 1 vs))=some (1,vs.map DV.p):=by simp [ZE,hv]
 have hz0:¬ (z.length≠sz\/sz=0):=by omega
 obtain ⟨hc,ho⟩:=ho
 rcases ho with ⟨rfl,rfl⟩ | ⟨hn0,r,ver,rfl,hr,hl⟩
 ·refine ⟨.osl σ.length 0 sz 1 vs,σ++[.tok 0],?_,⟨by simp [hc,hv],.inr ⟨by simp,σ.length,0,?_,QB,hlo⟩⟩,?_,by simp⟩
  ·have:b<=140737488355328:=by omega
   simp only [append,hs,hu,h1,h2,h3,hz0,hsrc,Um]
   simp [this,hb,ZN,h4,hz,Nat.ne_of_gt hz]
  ·have:cs=[]:=List.length_eq_zero_iff.1 (by simpa using hc)
   rw [this]; simp
  ·intro i row hi _
   exact QM hi
 ·refine ⟨.osl r (ver+1) sz (n+1) (cs++vs),σ.set r (.tok (ver+1)),?_,⟨by simp [hc,hv,Nat.add_mul],.inr ⟨by simp,r,ver+1,rfl,?_,hl⟩⟩,?_,by simp⟩
  ·have e1:(n+1)*b<=140737488355328:=Nat.le_trans (Nat.mul_le_mul (show n+1<=1000001 by omega) hb2) (by decide)
   have e2:n+1<=140737488355328:=by omega
   simp only [append,hs,hu,h1,h2,h3,hz0,hsrc,Ux]
   simp [e1,e2,hb,hc,hl,hr,ZN,h4,Nat.ne_of_gt hz]
  ·rw [List.getElem?_set_self (QT hr)]
  ·intro i row hi hne
   rw [List.getElem?_set_ne (fun e=>hne _ _ _ _ _ rfl e.symm)]
   exact hi
theorem Out.tw {σ:Qa} {lo sz n:Nat} {cs:List PV} {x:DV} (ho:Out σ lo sz n cs x) (m:Nat):thaw m σ x=some (.p (if n=0 then .nilsl else .sl false n (QP cs))):=by
 rcases ho.2 with ⟨rfl,rfl⟩ | ⟨hn,r,ver,rfl,_,_⟩
 ·rfl
 ·simp [thaw,Uu,Vv,hn]
theorem Out.twAll {σ:Qa} {lo sz n:Nat} {cs:List PV} {x:DV} (ho:Out σ lo sz n cs x) (m:Nat):Ze m σ x=some (.p (if n=0 then .nilsl else .sl false n (QP cs))):=by
 rcases ho.2 with ⟨rfl,rfl⟩ | ⟨hn,r,ver,rfl,_,_⟩
 ·rfl
 ·simp [Ze,Zx,thaw,Uu,Vv,hn]
theorem Out.vw {σ:Qa} {lo sz n:Nat} {cs:List PV} {x:DV} (ho:Out σ lo sz n cs x):view x=.p (if n=0 then .nilsl else .sl false n (QP cs)):=by
 rcases ho.2 with ⟨rfl,rfl⟩ | ⟨hn,r,ver,rfl,_,_⟩
 ·rfl
 ·simp [view,Zw,hn]
theorem Vs (x:Int) (σ:Qa):buildSlice PP none 22 1 [(0,.p (pI x))] σ=some (.p (.sl true 1 [pI x]),σ):=Eq.trans (by kernel_rfl) rfl
theorem Out.push22 {σ:Qa} {lo n:Nat} {cs:List PV} {v:PV} {x:DV} (ho:Out σ lo 1 n cs x) (hn:n<=1000000) (hlo:lo<=σ.length) :
  ∃ x' σ',append PP lo false 22 22 x (.p (.sl true 1 [v])) σ=some (x',σ')/\Out σ' lo 1 (n+1) (cs++[v]) x'/\Others σ σ' x/\σ.length<=σ'.length:=
 Out.push UI u22 s3 VO Uy rfl (by decide) (by decide) (by decide) rfl ho hn hlo
end Go.D
end
/- Equations of functions 109, 108, 82, 57, 97, 67, 54, 55, 101, 68, 31, 33, 22, 63, 70, 35, 32, printed by gen.py. -/
section
set_option linter.unusedVariables false
set_option maxRecDepth 10000
namespace Go.D
open Go.Proofs
noncomputable section
variable (G:Qe) (lo:Nat) {σ:Qa} {r:DV×Qa}
open _root_.Go.D.Code (fstC sndC)
open _root_.Go.D.Ann (left right)
def c109_0:Code:=Qs Tryz.f109
def a109_0:Ann:=(pol 109).ann
def F109 (a:DV) (σ:Qa):RS:=
 Qm G PP (pol 109) CC lo c109_0 a109_0 [a,Z,Z,Z,Z] σ (finR PP Tryz.f109.results.toList)
theorem F109_eq (G:Qe) (lo:Nat) (a:DV) (σ:Qa):F109 G lo a σ =
 (Qg CC (DV.fn 88 []) [a,I0,(DV.p (PV.int IntKind.i64 (7)))] σ).bind fun f=>
 some (f,σ):=by kernel_rfl
theorem F109_call {lo:Nat} {a:DV} (h:F109 Qb lo a σ=some r):CC lo 109 [a] σ=some r:=
 callL_run Tryz.func109 (by decide +kernel) rfl (by decide +kernel) h
def c108_0:Code:=Qs Tryz.f108
def a108_0:Ann:=(pol 108).ann
def F108 (a:DV) (σ:Qa):RS:=
 Qm G PP (pol 108) CC lo c108_0 a108_0 (a::zn 5 []) σ (finR PP Tryz.f108.results.toList)
theorem F108_eq (G:Qe) (lo:Nat) (a:DV) (σ:Qa):F108 G lo a σ =
 (Qg CC (DV.fn 109 []) [a] σ).bind fun f=>
 (unOp .not f).bind fun m=>
 some (m,σ):=by kernel_rfl
theorem F108_call {lo:Nat} {a:DV} (h:F108 Qb lo a σ=some r):CC lo 108 [a] σ=some r:=
 callL_run Tryz.func108 (by decide +kernel) rfl (by decide +kernel) h
def c82_0:Code:=Qs Tryz.f82
def a82_0:Ann:=(pol 82).ann
def F82 (a:DV) (σ:Qa):RS:=
 Qm G PP (pol 82) CC lo c82_0 a82_0 (a::zn 5 []) σ (finR PP Tryz.f82.results.toList)
theorem F82_eq (G:Qe) (lo:Nat) (a:DV) (σ:Qa):F82 G lo a σ =
 (Qg CC (DV.fn 86 []) [a,(DV.fn 108 [])] σ).bind fun f=>
 (unOp .not f).bind fun m=>
 some (m,σ):=by kernel_rfl
theorem F82_call {lo:Nat} {a:DV} (h:F82 Qb lo a σ=some r):CC lo 82 [a] σ=some r:=
 callL_run Tryz.func82 (by decide +kernel) rfl (by decide +kernel) h
def c57_0:Code:=Qs Tryz.f57
def a57_0:Ann:=(pol 57).ann
def F57 (a:DV) (σ:Qa):RS:=
 Qm G PP (pol 57) CC lo c57_0 a57_0 [a,Z,Z,Z,Z] σ (finR PP Tryz.f57.results.toList)
theorem F57_eq (G:Qe) (lo:Nat) (a:DV) (σ:Qa):F57 G lo a σ =
 (Qg CC (DV.fn 61 []) [a,I0,(DV.p (PV.int IntKind.i64 (7)))] σ).bind fun f=>
 some (f,σ):=by kernel_rfl
theorem F57_call {lo:Nat} {a:DV} (h:F57 Qb lo a σ=some r):CC lo 57 [a] σ=some r:=
 callL_run Tryz.func57 (by decide +kernel) rfl (by decide +kernel) h
def c97_0:Code:=Qs Tryz.f97
def a97_0:Ann:=(pol 97).ann
def F97 (a:DV) (σ:Qa):RS:=
 Qm G PP (pol 97) CC lo c97_0 a97_0 (a::zn 5 []) σ (finR PP Tryz.f97.results.toList)
theorem F97_eq (G:Qe) (lo:Nat) (a:DV) (σ:Qa):F97 G lo a σ =
 (Qg CC (DV.fn 88 []) [a,I0,(DV.p (PV.int IntKind.i64 (399)))] σ).bind fun f=>
 (unOp .not f).bind fun m=>
 some (m,σ):=by kernel_rfl
theorem F97_call {lo:Nat} {a:DV} (h:F97 Qb lo a σ=some r):CC lo 97 [a] σ=some r:=
 callL_run Tryz.func97 (by decide +kernel) rfl (by decide +kernel) h
def c67_0:Code:=Qs Tryz.f67
def a67_0:Ann:=(pol 67).ann
def a67_19:Ann:=right (left (right (right (right (right a67_0)))))
def a67_20:Ann:=left a67_19
def c67_21:Code:=fstC (fstC (sndC (fstC (sndC (sndC (sndC (sndC c67_0)))))))
def c67_31:Code:=sndC (sndC (sndC (sndC (sndC c67_0))))
def a67_31:Ann:=right (right (right (right (right a67_0))))
def f67_L0 (b f m O:DV) (σ:Qa):RS:=
 Qm G PP (pol 67) CC lo (.loop c67_21) a67_20 (Z::b::Z::Z::f::m::O::zn 78 []) σ
 (Qf 0 a67_19 (seqC G PP (pol 67) CC lo c67_31 a67_31 (finR PP Tryz.f67.results.toList)))
def F67 (a:DV) (σ:Qa):RS:=
 Qm G PP (pol 67) CC lo c67_0 a67_0 (a::zn 84 []) σ (finR PP Tryz.f67.results.toList)
theorem f67_L0_eq (G:Qe) (hG:Qo G) (lo:Nat) (b f m O:DV) (σ:Qa):f67_L0 G lo b f m O σ =
 (fieldAddr PP 33 b 1).bind fun aq=>
 (load PP 22 aq σ).bind fun Y=>
 (len PP 22 Y σ).bind fun L=>
 (binOp PP .lss 3 O L).bind fun C=>
 Qh C
 (
 Gp G m true (fieldAddr PP 33 b 1) σ fun N σ9=>
 Gp G m true (load PP 22 N σ9) σ9 fun t σ10=>
 G _ m true (some (O,σ10)) σ10 fun J σ11=>
 Gp G m true (binOp PP .sub 3 J I1) σ11 fun E σ12=>
 Gp G m true (indexAddr PP 22 t E) σ12 fun ak σ13=>
 Gp G m true (load PP 3 ak σ13) σ13 fun ar σ14=>
 Gp G m true (fieldAddr PP 33 b 1) σ14 fun az σ15=>
 Gp G m true (load PP 22 az σ15) σ15 fun T σ16=>
 G _ m true (some (O,σ16)) σ16 fun W σ17=>
 Gp G m true (indexAddr PP 22 T W) σ17 fun aa σ18=>
 Gp G m true (load PP 3 aa σ18) σ18 fun b9 σ19=>
 Gp G m true (Qg CC (DV.fn 99 []) [ar,b9] σ19) σ19 fun be σ20=>
 Gp G m true (fieldAddr PP 33 b 2) σ20 fun bp σ21=>
 Gp G m true (load PP 22 bp σ21) σ21 fun av σ22=>
 G _ m true (some (O,σ22)) σ22 fun bc σ23=>
 Gp G m true (binOp PP .sub 3 bc I1) σ23 fun bb σ24=>
 Gp G m true (indexAddr PP 22 av bb) σ24 fun bh σ25=>
 Gp G m true (load PP 3 bh σ25) σ25 fun bm σ26=>
 Gp G m true (fieldAddr PP 33 b 2) σ26 fun bi σ27=>
 Gp G m true (load PP 22 bi σ27) σ27 fun bj σ28=>
 G _ m true (some (O,σ28)) σ28 fun bu σ29=>
 Gp G m true (indexAddr PP 22 bj bu) σ29 fun bg σ30=>
 Gp G m true (load PP 3 bg σ30) σ30 fun bf σ31=>
 Gp G m true (Qg CC (DV.fn 99 []) [bm,bf] σ31) σ31 fun cm σ32=>
 G _ m true ((buildSlice PP none 22 2 [(0,be),(1,cm)] σ32).bind fun r=>some (r.1,r.2)) σ32 fun dc σ33=>
 Gp G m true (Qg CC (DV.fn 98 []) [dc] σ33) σ33 fun br σ34=>
 Gp G m true (binOp PP .lss 3 br I0) σ34 fun ba σ35=>
 (Qt m ba (DV.p (PV.bool false))).bind fun cz=>
 (binOp PP .add 3 O I1).bind fun y=>
 f67_L0 G lo b f cz y σ35
 )
 (
 (unOp .not f).bind fun M=>
 Gp G M true (fieldAddr PP 33 b 2) σ fun ca σ36=>
 Gp G M true (load PP 22 ca σ36) σ36 fun bq σ37=>
 Gp G M true (Qg CC (DV.fn 82 []) [bq] σ37) σ37 fun bz σ38=>
 (Qt M bz (DV.p (PV.bool false))).bind fun bv=>
 (Qg CC (DV.fn 73 []) [bv,(DV.p (PV.int IntKind.i64 (3)))] σ38).bind fun c7=>
 (Qg CC (DV.fn 73 []) [m,(DV.p (PV.int IntKind.i64 (13)))] σ38).bind fun n=>
 (buildSlice PP none 143 2 [(0,c7),(1,n)] σ38).bind fun r83_39=>
 (Qg CC (DV.fn 53 []) [r83_39.1] r83_39.2).bind fun bk=>
 some (bk,r83_39.2)
 ):=(Ql G hG).trans (by kernel_rfl)
theorem F67_eq (G:Qe) (lo:Nat) (a:DV) (σ:Qa):F67 G lo a σ =
 (boxV a).bind fun z1=>
 (fieldAddr PP 33 (DV.ptr (List.length σ) 0) 0).bind fun H=>
 (load PP 25 H (σ++[Row.mix z1])).bind fun k=>
 (Qg CC (DV.fn 96 []) [k] (σ++[Row.mix z1])).bind fun g=>
 (Qg CC (DV.fn 73 []) [g,(DV.p (PV.int IntKind.i64 (5)))] (σ++[Row.mix z1])).bind fun i=>
 (fieldAddr PP 33 (DV.ptr (List.length σ) 0) 1).bind fun j=>
 (load PP 22 j (σ++[Row.mix z1])).bind fun l=>
 (len PP 22 l (σ++[Row.mix z1])).bind fun q=>
 (fieldAddr PP 33 (DV.ptr (List.length σ) 0) 0).bind fun w=>
 (fieldAddr PP 25 w 0).bind fun F=>
 (load PP 3 F (σ++[Row.mix z1])).bind fun ah=>
 (binOp PP .eql 3 q ah).bind fun R=>
 Gp G R true (fieldAddr PP 33 (DV.ptr (List.length σ) 0) 2) (σ++[Row.mix z1]) fun b8 σ1=>
 Gp G R true (load PP 22 b8 σ1) σ1 fun Q σ2=>
 Gp G R true (len PP 22 Q σ2) σ2 fun u σ3=>
 Gp G R true (fieldAddr PP 33 (DV.ptr (List.length σ) 0) 0) σ3 fun o σ4=>
 Gp G R true (fieldAddr PP 25 o 0) σ4 fun z σ5=>
 Gp G R true (load PP 3 z σ5) σ5 fun K σ6=>
 Gp G R true (binOp PP .eql 3 u K) σ6 fun A σ7=>
 (Qt R A (DV.p (PV.bool false))).bind fun ac=>
 (Qg CC (DV.fn 73 []) [ac,(DV.p (PV.int IntKind.i64 (6)))] σ7).bind fun U=>
 (buildSlice PP none 143 2 [(0,i),(1,U)] σ7).bind fun r28_8=>
 (Qg CC (DV.fn 53 []) [r28_8.1] r28_8.2).bind fun S=>
 (binOp PP .neq 34 S I0).bind fun B=>
 Qh B
 (
 some (S,r28_8.2)
 )
 (
 (fieldAddr PP 33 (DV.ptr (List.length σ) 0) 1).bind fun ae=>
 (load PP 22 ae r28_8.2).bind fun V=>
 (Qg CC (DV.fn 86 []) [V,(DV.fn 97 [])] r28_8.2).bind fun ai=>
 f67_L0 G lo (DV.ptr (List.length σ) 0) ai (DV.p (PV.bool true)) I1 r28_8.2
 ):=by kernel_rfl
theorem F67_call {lo:Nat} {a:DV} (h:F67 Qb lo a σ=some r):CC lo 67 [a] σ=some r:=
 callL_run Tryz.func67 (by decide +kernel) rfl (by decide +kernel) h
def c54_0:Code:=Qs Tryz.f54
def a54_0:Ann:=(pol 54).ann
def a54_19:Ann:=right (left (right (right (right (right a54_0)))))
def a54_20:Ann:=left a54_19
def c54_21:Code:=fstC (fstC (sndC (fstC (sndC (sndC (sndC (sndC c54_0)))))))
def c54_33:Code:=sndC (sndC (sndC (sndC (sndC c54_0))))
def a54_33:Ann:=right (right (right (right (right a54_0))))
def f54_L0 (b c H aj aq:DV) (σ:Qa):RS:=
 Qm G PP (pol 54) CC lo (.loop c54_21) a54_20 (Z::b::c::Z::Z::Z::Z::H::zn 28 (aj::aq::zn 20 [])) σ
 (Qf 0 a54_19 (seqC G PP (pol 54) CC lo c54_33 a54_33 (finR PP Tryz.f54.results.toList)))
def F54 (a b:DV) (σ:Qa):RS:=
 Qm G PP (pol 54) CC lo c54_0 a54_0 (a::b::zn 56 []) σ (finR PP Tryz.f54.results.toList)
theorem f54_L0_eq (G:Qe) (hG:Qo G) (lo:Nat) (b c H aj aq:DV) (σ:Qa):f54_L0 G lo b c H aj aq σ =
 (binOp PP .lss 3 aq aj).bind fun Y=>
 Qh Y
 (
 Gp G H true (load PP 25 c σ) σ fun y σ2=>
 G _ H true (some (b,σ2)) σ2 fun X σ3=>
 G _ H true (some (aq,σ3)) σ3 fun P σ4=>
 Gp G H true (indexAddr PP 22 X P) σ4 fun N σ5=>
 Gp G H true (load PP 3 N σ5) σ5 fun t σ6=>
 G _ H true (some (b,σ6)) σ6 fun J σ7=>
 G _ H true (some (aq,σ7)) σ7 fun E σ8=>
 Gp G H true (binOp PP .add 3 E I1) σ8 fun ak σ9=>
 Gp G H true (indexAddr PP 22 J ak) σ9 fun ar σ10=>
 Gp G H true (load PP 3 ar σ10) σ10 fun az σ11=>
 Gp G H true (Qg CC (DV.fn 55 []) [y,t,az] σ11) σ11 fun T σ12=>
 Gp G H true (binOp PP .neq 3 T (DV.p (PV.int IntKind.i64 (-1)))) σ12 fun W σ13=>
 (Qt H W (DV.p (PV.bool false))).bind fun aa=>
 (binOp PP .add 3 aq I1).bind fun b9=>
 f54_L0 G lo b c aa aj b9 σ13
 )
 (
 (Qg CC (DV.fn 73 []) [H,(DV.p (PV.int IntKind.i64 (14)))] σ).bind fun bp=>
 some (bp,σ)
 ):=(Ql G hG).trans (by kernel_rfl)
theorem F54_eq (G:Qe) (lo:Nat) (a b:DV) (σ:Qa):F54 G lo a b σ =
 (boxV a).bind fun z2=>
 (Qg CC (DV.fn 86 []) [b,(DV.fn 87 [(DV.ptr (List.length σ) 0)])] (σ++[Row.mix z2])).bind fun j=>
 (len PP 22 b (σ++[Row.mix z2])).bind fun q=>
 (binOp PP .gtr 3 q I0).bind fun w=>
 (Qg CC (DV.fn 73 []) [w,I1] (σ++[Row.mix z2])).bind fun F=>
 (len PP 22 b (σ++[Row.mix z2])).bind fun R=>
 (binOp PP .leq 3 R (DV.p (PV.int IntKind.i64 (60)))).bind fun af=>
 (Qg CC (DV.fn 73 []) [af,(DV.p (PV.int IntKind.i64 (2)))] (σ++[Row.mix z2])).bind fun b8=>
 (unOp .not j).bind fun u=>
 (Qg CC (DV.fn 73 []) [u,(DV.p (PV.int IntKind.i64 (3)))] (σ++[Row.mix z2])).bind fun o=>
 (buildSlice PP none 143 3 [(0,F),(1,b8),(2,o)] (σ++[Row.mix z2])).bind fun r23_1=>
 (Qg CC (DV.fn 53 []) [r23_1.1] r23_1.2).bind fun K=>
 (binOp PP .neq 34 K I0).bind fun ac=>
 Qh ac
 (
 some (K,r23_1.2)
 )
 (
 (fieldAddr PP 25 (DV.ptr (List.length σ) 0) 1).bind fun au=>
 (load PP 22 au r23_1.2).bind fun S=>
 (indexAddr PP 22 b I0).bind fun B=>
 (load PP 3 B r23_1.2).bind fun I=>
 (Qg CC (DV.fn 89 []) [S,I] r23_1.2).bind fun ae=>
 (Zy PP 22 b (some I1) none none).bind fun ai=>
 (len PP 22 ai r23_1.2).bind fun aj=>
 f54_L0 G lo b (DV.ptr (List.length σ) 0) ae aj I0 r23_1.2
 ):=by kernel_rfl
theorem F54_call {lo:Nat} {a b:DV} (h:F54 Qb lo a b σ=some r):CC lo 54 [a,b] σ=some r:=
 callL_run Tryz.func54 (by decide +kernel) rfl (by decide +kernel) h
def c55_0:Code:=Qs Tryz.f55
def a55_0:Ann:=(pol 55).ann
def F55 (a b c:DV) (σ:Qa):RS:=
 Qm G PP (pol 55) CC lo c55_0 a55_0 (a::b::c::zn 8 []) σ (finR PP Tryz.f55.results.toList)
theorem F55_eq (G:Qe) (lo:Nat) (a b c:DV) (σ:Qa):F55 G lo a b c σ =
 (boxV a).bind fun z3=>
 (boxV b).bind fun z4=>
 (boxV c).bind fun z5=>
 (fieldAddr PP 25 (DV.ptr (List.length σ) 0) 2).bind fun H=>
 (load PP 23 H (((σ++[Row.mix z3])++[Row.mix z4])++[Row.mix z5])).bind fun k=>
 (Qg CC (DV.fn 90 []) [k,(DV.fn 91 [(DV.ptr (List.length (σ++[Row.mix z3])) 0),(DV.ptr (List.length ((σ++[Row.mix z3])++[Row.mix z4])) 0)])] (((σ++[Row.mix z3])++[Row.mix z4])++[Row.mix z5])).bind fun i=>
 some (i,(((σ++[Row.mix z3])++[Row.mix z4])++[Row.mix z5])):=by kernel_rfl
theorem F55_call {lo:Nat} {a b c:DV} (h:F55 Qb lo a b c σ=some r):CC lo 55 [a,b,c] σ=some r:=
 callL_run Tryz.func55 (by decide +kernel) rfl (by decide +kernel) h
def c101_0:Code:=Qs Tryz.f101
def a101_0:Ann:=(pol 101).ann
def F101 (a b c:DV) (σ:Qa):RS:=
 Qm G PP (pol 101) CC lo c101_0 a101_0 (a::b::c::zn 17 []) σ (finR PP Tryz.f101.results.toList)
theorem F101_eq (G:Qe) (lo:Nat) (a b c:DV) (σ:Qa):F101 G lo a b c σ =
 (boxV a).bind fun z3=>
 (fieldAddr PP 69 (DV.ptr (List.length σ) 0) 0).bind fun m=>
 (load PP 3 m (σ++[Row.mix z3])).bind fun O=>
 (load PP 3 b (σ++[Row.mix z3])).bind fun H=>
 (binOp PP .eql 3 O H).bind fun k=>
 Gp G k true (fieldAddr PP 69 (DV.ptr (List.length σ) 0) 1) (σ++[Row.mix z3]) fun i σ1=>
 Gp G k true (load PP 3 i σ1) σ1 fun j σ2=>
 Gp G k true (load PP 3 c σ2) σ2 fun l σ3=>
 Gp G k true (binOp PP .eql 3 j l) σ3 fun q σ4=>
 (Qt k q (DV.p (PV.bool false))).bind fun w=>
 Gp G w true (fieldAddr PP 69 (DV.ptr (List.length σ) 0) 2) σ4 fun ah σ5=>
 Gp G w true (load PP 3 ah σ5) σ5 fun R σ6=>
 Gp G w true (binOp PP .neq 3 R (DV.p (PV.int IntKind.i64 (11)))) σ6 fun af σ7=>
 (Qt w af (DV.p (PV.bool false))).bind fun b8=>
 some (b8,σ7):=by kernel_rfl
theorem F101_call {lo:Nat} {a b c:DV} (h:F101 Qb lo a b c σ=some r):CC lo 101 [a,b,c] σ=some r:=
 callL_run Tryz.func101 (by decide +kernel) rfl (by decide +kernel) h
def c68_0:Code:=Qs Tryz.f68
def a68_0:Ann:=(pol 68).ann
def F68 (a b c:DV) (σ:Qa):RS:=
 Qm G PP (pol 68) CC lo c68_0 a68_0 (a::b::c::zn 9 []) σ (finR PP Tryz.f68.results.toList)
theorem F68_eq (G:Qe) (lo:Nat) (a b c:DV) (σ:Qa):F68 G lo a b c σ =
 (boxV a).bind fun z3=>
 (boxV b).bind fun z4=>
 (boxV c).bind fun z5=>
 (fieldAddr PP 25 (DV.ptr (List.length σ) 0) 2).bind fun H=>
 (load PP 23 H (((σ++[Row.mix z3])++[Row.mix z4])++[Row.mix z5])).bind fun k=>
 (Qg CC (DV.fn 100 []) [k,(DV.fn 101 [(DV.ptr (List.length (σ++[Row.mix z3])) 0),(DV.ptr (List.length ((σ++[Row.mix z3])++[Row.mix z4])) 0)])] (((σ++[Row.mix z3])++[Row.mix z4])++[Row.mix z5])).bind fun i=>
 (unOp .not i).bind fun j=>
 some (j,(((σ++[Row.mix z3])++[Row.mix z4])++[Row.mix z5])):=by kernel_rfl
theorem F68_call {lo:Nat} {a b c:DV} (h:F68 Qb lo a b c σ=some r):CC lo 68 [a,b,c] σ=some r:=
 callL_run Tryz.func68 (by decide +kernel) rfl (by decide +kernel) h
def c31_0:Code:=Qs Tryz.f31
def a31_0:Ann:=(pol 31).ann
def a31_27:Ann:=right (left (right (right (right (right a31_0)))))
def a31_28:Ann:=left a31_27
def c31_29:Code:=fstC (fstC (sndC (fstC (sndC (sndC (sndC (sndC c31_0)))))))
def c31_46:Code:=sndC (sndC (sndC c31_29))
def a31_46:Ann:=right (right (right (left a31_28)))
def c31_47:Code:=sndC (sndC (sndC (sndC (sndC c31_0))))
def a31_47:Ann:=right (right (right (right (right a31_0))))
def f31_L0 (b c k z K A:DV) (σ:Qa):RS:=
 Qm G PP (pol 31) CC lo (.loop c31_29) a31_28 (Z::b::c::zn 5 (k::zn 14 (z::K::A::zn 44 []))) σ
 (Qf 0 a31_27 (seqC G PP (pol 31) CC lo c31_47 a31_47 (finR PP Tryz.f31.results.toList)))
def f31_J0 (b c k z K A:DV) (σ:Qa):RS:=
 (seqC G PP (pol 31) CC lo c31_46 a31_46 (QN G PP (pol 31) CC lo c31_29 a31_28 (Qf 0 a31_27 (seqC G PP (pol 31) CC lo c31_47 a31_47 (finR PP Tryz.f31.results.toList))))) .normal (Z::b::c::zn 5 (k::zn 14 (z::K::A::zn 44 []))) σ
def F31 (a b:DV) (σ:Qa):RS:=
 Qm G PP (pol 31) CC lo c31_0 a31_0 (a::b::zn 68 []) σ (finR PP Tryz.f31.results.toList)
theorem f31_L0_eq (G:Qe) (hG:Qo G) (lo:Nat) (b c k z K A:DV) (σ:Qa):f31_L0 G lo b c k z K A σ =
 (binOp PP .lss 3 A K).bind fun ac=>
 Qh ac
 (
 (indexAddr PP 22 z A).bind fun au=>
 (load PP 3 au σ).bind fun S=>
 (binOp PP .gtr 3 A I0).bind fun B=>
 Gp G B true (fieldAddr PP 33 c 1) σ fun ae σ1=>
 Gp G B true (load PP 22 ae σ1) σ1 fun V σ2=>
 G _ B true (some (S,σ2)) σ2 fun ai σ3=>
 Gp G B true (indexAddr PP 22 V ai) σ3 fun aj σ4=>
 Gp G B true (load PP 3 aj σ4) σ4 fun aq σ5=>
 Gp G B true (fieldAddr PP 33 c 1) σ5 fun Y σ6=>
 Gp G B true (load PP 22 Y σ6) σ6 fun L σ7=>
 G _ B true (some (b,σ7)) σ7 fun C σ8=>
 G _ B true (some (A,σ8)) σ8 fun x σ9=>
 Gp G B true (binOp PP .sub 3 x I1) σ9 fun y σ10=>
 Gp G B true (indexAddr PP 22 C y) σ10 fun X σ11=>
 Gp G B true (load PP 3 X σ11) σ11 fun P σ12=>
 Gp G B true (indexAddr PP 22 L P) σ12 fun N σ13=>
 Gp G B true (load PP 3 N σ13) σ13 fun t σ14=>
 Gp G B true (binOp PP .eql 3 aq t) σ14 fun J σ15=>
 (Qt B J (DV.p (PV.bool false))).bind fun E=>
 Gp G E true (fieldAddr PP 33 c 0) σ15 fun ar σ16=>
 Gp G E true (load PP 25 ar σ16) σ16 fun az σ17=>
 G _ E true (some (b,σ17)) σ17 fun T σ18=>
 G _ E true (some (A,σ18)) σ18 fun W σ19=>
 Gp G E true (binOp PP .sub 3 W I1) σ19 fun aa σ20=>
 Gp G E true (indexAddr PP 22 T aa) σ20 fun b9 σ21=>
 Gp G E true (load PP 3 b9 σ21) σ21 fun be σ22=>
 G _ E true (some (S,σ22)) σ22 fun bp σ23=>
 Gp G E true (Qg CC (DV.fn 68 []) [az,be,bp] σ23) σ23 fun av σ24=>
 (Qt E av (DV.p (PV.bool false))).bind fun bc=>
 Qh bc
 (
 f31_J0 G lo b c k z K A σ24
 )
 (
 (fieldAddr PP 33 c 1).bind fun bh=>
 (load PP 22 bh σ24).bind fun bm=>
 (indexAddr PP 22 bm S).bind fun bj=>
 (load PP 3 bj σ24).bind fun bu=>
 (buildSlice PP none 22 1 [(0,bu)] σ24).bind fun r66_25=>
 (append PP lo false 22 22 k r66_25.1 r66_25.2).bind fun r67_26=>
 f31_J0 G lo b c r67_26.1 z K A r67_26.2
 )
 )
 (
 some ((DV.tuple [k,I0]),σ)
 ):=(Ql G hG).trans (by kernel_rfl)
theorem f31_J0_eq (G:Qe) (lo:Nat) (b c k z K A:DV) (σ:Qa):f31_J0 G lo b c k z K A σ =
 (binOp PP .add 3 A I1).bind fun cm=>
 f31_L0 G lo b c k z K cm σ:=by kernel_rfl
theorem F31_eq (G:Qe) (lo:Nat) (a b:DV) (σ:Qa):F31 G lo a b σ =
 (boxV a).bind fun z2=>
 (load PP 33 (DV.ptr (List.length σ) 0) (σ++[Row.mix z2])).bind fun j=>
 (Qg CC (DV.fn 67 []) [j] (σ++[Row.mix z2])).bind fun l=>
 (binOp PP .neq 34 l I0).bind fun w=>
 Qh w
 (
 some ((DV.tuple [(DV.p PV.nilsl),l]),(σ++[Row.mix z2]))
 )
 (
 (fieldAddr PP 33 (DV.ptr (List.length σ) 0) 0).bind fun ah=>
 (load PP 25 ah (σ++[Row.mix z2])).bind fun R=>
 (Qg CC (DV.fn 54 []) [R,b] (σ++[Row.mix z2])).bind fun b8=>
 (binOp PP .neq 34 b8 I0).bind fun u=>
 Qh u
 (
 some ((DV.tuple [(DV.p PV.nilsl),b8]),(σ++[Row.mix z2]))
 )
 (
 (len PP 22 b (σ++[Row.mix z2])).bind fun K=>
 f31_L0 G lo b (DV.ptr (List.length σ) 0) (DV.p PV.nilsl) b K I0 (σ++[Row.mix z2])
 )
 ):=by kernel_rfl
theorem F31_call {lo:Nat} {a b:DV} (h:F31 Qb lo a b σ=some r):CC lo 31 [a,b] σ=some r:=
 callL_run Tryz.func31 (by decide +kernel) rfl (by decide +kernel) h
def c22_0:Code:=Qs Tryz.f22
def a22_0:Ann:=(pol 22).ann
def a22_21:Ann:=right (left (right (right (right a22_0))))
def a22_22:Ann:=left a22_21
def c22_23:Code:=fstC (fstC (sndC (fstC (sndC (sndC (sndC c22_0))))))
def c22_39:Code:=sndC (sndC (sndC (sndC c22_0)))
def a22_39:Ann:=right (right (right (right a22_0)))
def a22_50:Ann:=right (left (right a22_39))
def a22_51:Ann:=left a22_50
def c22_52:Code:=fstC (fstC (sndC (fstC (sndC c22_39))))
def c22_68:Code:=sndC (sndC c22_39)
def a22_68:Ann:=right (right a22_39)
def f22_L0 (b c m:DV) (σ:Qa):RS:=
 Qm G PP (pol 22) CC lo (.loop c22_23) a22_22 (Z::b::c::Z::Z::m::zn 47 []) σ
 (Qf 0 a22_21 (seqC G PP (pol 22) CC lo c22_39 a22_39 (finR PP Tryz.f22.results.toList)))
def f22_L1 (b c O:DV) (σ:Qa):RS:=
 Qm G PP (pol 22) CC lo (.loop c22_52) a22_51 (Z::b::c::Z::Z::Z::O::zn 46 []) σ
 (Qf 2 a22_50 (seqC G PP (pol 22) CC lo c22_68 a22_68 (finR PP Tryz.f22.results.toList)))
def F22 (a b:DV) (σ:Qa):RS:=
 Qm G PP (pol 22) CC lo c22_0 a22_0 (a::b::zn 51 []) σ (finR PP Tryz.f22.results.toList)
theorem f22_L0_eq (G:Qe) (hG:Qo G) (lo:Nat) (b c m:DV) (σ:Qa):f22_L0 G lo b c m σ =
 (len PP 22 b σ).bind fun F=>
 (binOp PP .lss 3 m F).bind fun ah=>
 Qh ah
 (
 (indexAddr PP 22 b m).bind fun u=>
 (load PP 3 u σ).bind fun o=>
 (fieldAddr PP 25 c 0).bind fun z=>
 (load PP 3 z σ).bind fun K=>
 (binOp PP .sub 3 K I1).bind fun A=>
 (Qg CC (DV.fn 61 []) [o,I0,A] σ).bind fun ac=>
 (unOp .not ac).bind fun U=>
 Qh U
 (
 some ((DV.p (PV.int IntKind.i64 (3))),σ)
 )
 (
 (binOp PP .add 3 m I1).bind fun af=>
 f22_L0 G lo b c af σ
 )
 )
 (
 (fieldAddr PP 25 c 1).bind fun au=>
 (load PP 22 au σ).bind fun S=>
 (indexAddr PP 22 b I0).bind fun B=>
 (load PP 3 B σ).bind fun I=>
 (Qg CC (DV.fn 62 []) [S,I] σ).bind fun ae=>
 (unOp .not ae).bind fun V=>
 Qh V
 (
 some ((DV.p (PV.int IntKind.i64 (14))),σ)
 )
 (
 f22_L1 G lo b c I1 σ
 )
 ):=(Ql G hG).trans (by kernel_rfl)
theorem f22_L1_eq (G:Qe) (hG:Qo G) (lo:Nat) (b c O:DV) (σ:Qa):f22_L1 G lo b c O σ =
 (len PP 22 b σ).bind fun aq=>
 (binOp PP .lss 3 O aq).bind fun Y=>
 Qh Y
 (
 (load PP 25 c σ).bind fun x=>
 (binOp PP .sub 3 O I1).bind fun P=>
 (indexAddr PP 22 b P).bind fun N=>
 (load PP 3 N σ).bind fun t=>
 (indexAddr PP 22 b O).bind fun ak=>
 (load PP 3 ak σ).bind fun ar=>
 (Qg CC (DV.fn 63 []) [x,t,ar] σ).bind fun az=>
 (binOp PP .lss 3 az I0).bind fun T=>
 Qh T
 (
 some ((DV.p (PV.int IntKind.i64 (14))),σ)
 )
 (
 (binOp PP .add 3 O I1).bind fun C=>
 f22_L1 G lo b c C σ
 )
 )
 (
 some (I0,σ)
 ):=(Ql G hG).trans (by kernel_rfl)
theorem F22_eq (G:Qe) (lo:Nat) (a b:DV) (σ:Qa):F22 G lo a b σ =
 (boxV a).bind fun z2=>
 (len PP 22 b (σ++[Row.mix z2])).bind fun k=>
 (binOp PP .eql 3 k I0).bind fun g=>
 Qh g
 (
 some (I1,(σ++[Row.mix z2]))
 )
 (
 (len PP 22 b (σ++[Row.mix z2])).bind fun j=>
 (binOp PP .gtr 3 j (DV.p (PV.int IntKind.i64 (60)))).bind fun l=>
 Qh l
 (
 some ((DV.p (PV.int IntKind.i64 (2))),(σ++[Row.mix z2]))
 )
 (
 f22_L0 G lo b (DV.ptr (List.length σ) 0) I0 (σ++[Row.mix z2])
 )
 ):=by kernel_rfl
theorem F22_call {lo:Nat} {a b:DV} (h:F22 Qb lo a b σ=some r):CC lo 22 [a,b] σ=some r:=
 callL_run Tryz.func22 (by decide +kernel) rfl (by decide +kernel) h
def c63_0:Code:=Qs Tryz.f63
def a63_0:Ann:=(pol 63).ann
def a63_5:Ann:=right (left (right a63_0))
def a63_6:Ann:=left a63_5
def c63_7:Code:=fstC (fstC (sndC (fstC (sndC c63_0))))
def c63_23:Code:=sndC (sndC c63_0)
def a63_23:Ann:=right (right a63_0)
def f63_L0 (b c d H:DV) (σ:Qa):RS:=
 Qm G PP (pol 63) CC lo (.loop c63_7) a63_6 (Z::b::c::d::Z::Z::Z::H::zn 26 []) σ
 (Qf 0 a63_5 (seqC G PP (pol 63) CC lo c63_23 a63_23 (finR PP Tryz.f63.results.toList)))
def F63 (a b c:DV) (σ:Qa):RS:=
 Qm G PP (pol 63) CC lo c63_0 a63_0 (a::b::c::zn 31 []) σ (finR PP Tryz.f63.results.toList)
theorem f63_L0_eq (G:Qe) (hG:Qo G) (lo:Nat) (b c d H:DV) (σ:Qa):f63_L0 G lo b c d H σ =
 (fieldAddr PP 25 d 2).bind fun g=>
 (load PP 23 g σ).bind fun i=>
 (len PP 23 i σ).bind fun j=>
 (binOp PP .lss 3 H j).bind fun l=>
 Qh l
 (
 (fieldAddr PP 25 d 2).bind fun F=>
 (load PP 23 F σ).bind fun ah=>
 (indexAddr PP 23 ah H).bind fun af=>
 (fieldAddr PP 69 af 0).bind fun b8=>
 (load PP 3 b8 σ).bind fun Q=>
 (binOp PP .eql 3 Q b).bind fun o=>
 Gp G o true (fieldAddr PP 25 d 2) σ fun K σ1=>
 Gp G o true (load PP 23 K σ1) σ1 fun A σ2=>
 G _ o true (some (H,σ2)) σ2 fun ac σ3=>
 Gp G o true (indexAddr PP 23 A ac) σ3 fun U σ4=>
 Gp G o true (fieldAddr PP 69 U 1) σ4 fun au σ5=>
 Gp G o true (load PP 3 au σ5) σ5 fun S σ6=>
 G _ o true (some (c,σ6)) σ6 fun aw σ7=>
 Gp G o true (binOp PP .eql 3 S aw) σ7 fun B σ8=>
 (Qt o B (DV.p (PV.bool false))).bind fun I=>
 Qh I
 (
 some (H,σ8)
 )
 (
 (binOp PP .add 3 H I1).bind fun w=>
 f63_L0 G lo b c d w σ8
 )
 )
 (
 some ((DV.p (PV.int IntKind.i64 (-1))),σ)
 ):=(Ql G hG).trans (by kernel_rfl)
theorem F63_eq (G:Qe) (lo:Nat) (a b c:DV) (σ:Qa):F63 G lo a b c σ =
 (boxV a).bind fun z3=>
 f63_L0 G lo b c (DV.ptr (List.length σ) 0) I0 (σ++[Row.mix z3]):=by kernel_rfl
theorem F63_call {lo:Nat} {a b c:DV} (h:F63 Qb lo a b c σ=some r):CC lo 63 [a,b,c] σ=some r:=
 callL_run Tryz.func63 (by decide +kernel) rfl (by decide +kernel) h
def c32_0:Code:=Qs Tryz.f32
def a32_0:Ann:=(pol 32).ann
def F32 (a:DV) (σ:Qa):RS:=
 Qm G PP (pol 32) CC lo c32_0 a32_0 (a::zn 12 []) σ (finR PP Tryz.f32.results.toList)
theorem F32_eq (G:Qe) (lo:Nat) (a:DV) (σ:Qa):F32 G lo a σ =
 (boxV a).bind fun z1=>
 (Qx PP 33).bind fun z2=>
 (fieldAddr PP 33 (DV.ptr (List.length σ) 0) 0).bind fun d=>
 (load PP 25 d ((σ++[Row.mix z1])++[Row.mix z2])).bind fun f=>
 (Qg CC (DV.fn 13 []) [f] ((σ++[Row.mix z1])++[Row.mix z2])).bind fun m=>
 (fieldAddr PP 33 (DV.ptr (List.length σ) 0) 1).bind fun O=>
 (load PP 22 O ((σ++[Row.mix z1])++[Row.mix z2])).bind fun H=>
 (Qg CC (DV.fn 16 []) [H] ((σ++[Row.mix z1])++[Row.mix z2])).bind fun k=>
 (fieldAddr PP 33 (DV.ptr (List.length σ) 0) 2).bind fun g=>
 (load PP 22 g ((σ++[Row.mix z1])++[Row.mix z2])).bind fun i=>
 (Qg CC (DV.fn 16 []) [i] ((σ++[Row.mix z1])++[Row.mix z2])).bind fun j=>
 (build PP 33 [(0,m),(1,k),(2,j)]).bind fun l=>
 (store PP lo 33 (DV.ptr (List.length (σ++[Row.mix z1])) 0) l ((σ++[Row.mix z1])++[Row.mix z2])).bind fun σ1=>
 (Vy PP 33 (DV.ptr (List.length (σ++[Row.mix z1])) 0) σ1).bind fun v0=>
 some (v0,σ1):=by kernel_rfl
theorem F32_call {lo:Nat} {a:DV} (h:F32 Qb lo a σ=some r):CC lo 32 [a] σ=some r:=
 callL_run Tryz.func32 (by decide +kernel) rfl (by decide +kernel) h
end
end Go.D
end
/- Chapter 22: errors of extended graphs, in the program and in the reference. -/
section
set_option linter.unusedVariables false
set_option linter.unusedSimpArgs false
namespace Go.D
abbrev OI:=Option (List Int)
def N (n:Nat):DV:=.p (.int .i64 (n:Nat))
theorem ltT {a b:Int} (h:a<b):decide (a<b)=true:=decide_eq_true h
theorem ltF {a b:Int} (h:¬ a<b):decide (a<b)=false:=decide_eq_false h
theorem eqT {a b:Int} (h:a=b):decide (a=b)=true:=decide_eq_true h
theorem eqF {a b:Int} (h:¬ a=b):decide (a=b)=false:=decide_eq_false h
theorem add1 {i:Nat} (h:i<=1000000):binOp PP .add 3 (.p (.int .i64 (i:Nat))) (.p (.int .i64 1))=some (.p (.int .i64 ((i+1:Nat)))):=by rw [Wa,Zn h]
theorem sub1 {i:Nat} (h0:0<i) (h:i<=1000000):binOp PP .sub 3 (.p (.int .i64 (i:Nat))) (.p (.int .i64 1))=some (.p (.int .i64 ((i-1:Nat)))):=by
 rw [WD,wrap_pred h0 h]
theorem idxL {o:OI} {i:Nat} (h:i<(L o).length):indexAddr PP 22 (.p (eSl o)) (.p (.int .i64 (i:Nat)))=some (.pptr (Qr (L o)) i):=ZS h
theorem ldL {o:OI} {i:Nat} (h:i<(L o).length) (σ:Qa):ZX (.pptr (Qr (L o)) i) σ=some (.p (.int .i64 ((L o).getD i 0))):=QC h σ
structure Ax where
 g:Gr
 b:OI
 a:OI
def eAx (x:Ax):List DV:=[.p (pI x.g.n),.p (eSl x.g.init),.p (eEs x.g.edges),.p (eSl x.b),.p (eSl x.a)]
theorem Ua (x:Ax):boxV (.agg (eAx x))=some (eAx x):=rfl
theorem WZ (x:Ax):view (.agg (eAx x))=.agg (eAx x):=by simp [view,Zw,eAx,ZO,WU,Zs]
theorem Wq (x:DV):fieldAddr PP 33 x 0=QL x 0:=Eq.trans (by kernel_rfl) rfl
theorem Wi (x:DV):fieldAddr PP 33 x 1=QL x 3:=Eq.trans (by kernel_rfl) rfl
theorem Vd (x:DV):fieldAddr PP 33 x 2=QL x 4:=Eq.trans (by kernel_rfl) rfl
theorem load33 (x:DV) (σ:Qa):load PP 33 x σ=(Wl σ 5 x).map .agg:=Eq.trans (by kernel_rfl) rfl
theorem Ut:Qx PP 33=some [.p (pI 0),.p .nilsl,.p .nilsl,.p .nilsl,.p .nilsl]:=Eq.trans (by kernel_rfl) rfl
theorem s33:size? PP 33=some 5:=Eq.trans (by kernel_rfl) rfl
section
variable {σ : Qa} {r : Nat} {x : Ax} (h : σ[r]? = some (.mix (eAx x)))
include h
theorem VE:load PP 33 (.ptr r 0) σ=some (.agg (eAx x)):=by rw [load33,QI (vs:=eAx x) h rfl (by simp [eAx])]; rfl
theorem ax_g:load PP 25 (.ptr r 0) σ=some (.agg (eGr x.g)):=by rw [UN,QI (vs:=eGr x.g) h rfl (by simp [eAx])]; rfl
theorem ax_n:load PP 3 (.ptr r 0) σ=some (.p (.int .i64 x.g.n)):=by rw [QF,Qc h rfl]
theorem ax_b:load PP 22 (.ptr r 3) σ=some (.p (eSl x.b)):=by rw [QO,Qc h rfl]
theorem ax_a:load PP 22 (.ptr r 4) σ=some (.p (eSl x.a)):=by rw [QO,Qc h rfl]
end
structure XSm (x:Ax):Prop where
 i:(L x.g.init).length<=1000
 e:(L x.g.edges).length<=10000
 b:(L x.b).length<=1000
 a:(L x.a).length<=1000
def bB (n:Int):Bool:=!inR n 0 399
def bA (n:Int):Bool:=!inR n 0 7
def ascK (b a:List Int) (i:Nat):Bool:=decide (orL [cmpI (b.getD (i-1) 0) (b.getD i 0),cmpI (a.getD (i-1) 0) (a.getD i 0)]<0)
def ascX (b a:List Int):Bool:=QK (ascK b a) 1 (b.length-1)
def lenX (x:Ax):Bool:=decide (((L x.b).length:Int)=x.g.n)&&decide (((L x.a).length:Int)=x.g.n)
def badX (x:Ax):Bool:=(L x.b).any bB||(L x.a).any bA
def extE (x:Ax):Int:=if isG x.g=true then (if lenX x=true then (if badX x=true then 3 else if ascX (L x.b) (L x.a)=true then 0 else 13) else 6) else 5
theorem S109 (n:Int) (σ:Qa):Qv CC 109 [.p (pI n)] σ=some (.p (.bool (inR n 0 7))):=by
 refine Qk rfl rfl (F109_call (r:=(.p (.bool (inR n 0 7)),[])) ?_) rfl
 rw [F109_eq]
 simp only [Qi,List.append_nil,S88,Qz]
theorem S108 (n:Int) (σ:Qa):Qv CC 108 [.p (pI n)] σ=some (.p (.bool (bA n))):=by
 refine Qk rfl rfl (F108_call (r:=(.p (.bool (bA n)),[])) ?_) rfl
 rw [F108_eq]
 simp only [Qi,List.append_nil,S109,Qz,ZD,bA]
theorem S57 (n:Int) (σ:Qa):Qv CC 57 [.p (pI n)] σ=some (.p (.bool (inR n 0 7))):=by
 refine Qk rfl rfl (F57_call (r:=(.p (.bool (inR n 0 7)),[])) ?_) rfl
 rw [F57_eq]
 simp only [Qi,List.append_nil,S61,Qz]
theorem S97 (n:Int) (σ:Qa):Qv CC 97 [.p (pI n)] σ=some (.p (.bool (bB n))):=by
 refine Qk rfl rfl (F97_call (r:=(.p (.bool (bB n)),[])) ?_) rfl
 rw [F97_eq]
 simp only [Qi,List.append_nil,S88,Qz,ZD,bB]
theorem S82 {o:OI} {σ:Qa} (hl:(L o).length<=1000):Qv CC 82 [.p (eSl o)] σ=some (.p (.bool (!(L o).any bA))):=by
 refine Qk (by simp [Zf]) rfl (F82_call (r:=(.p (.bool (!(L o).any bA)),[])) ?_) rfl
 rw [F82_eq]
 simp only [Qi,List.append_nil,S86 (q:=bA) hl fun σ0 _ v=>S108 v σ0,Qz,ZD]
theorem bs22_2 (x y:Int) (σ:Qa):buildSlice PP none 22 2 [(0,.p (.int .i64 x)),(1,.p (.int .i64 y))] σ=some (.p (.sl true 2 (Qr [x,y])),σ):=Eq.trans (by kernel_rfl) rfl
theorem Uj (x y:Int) (σ:Qa):buildSlice PP none 143 2 [(0,.p (pI x)),(1,.p (pI y))] σ=some (.p (.sl true 2 (Qr [x,y])),σ):=Eq.trans (by kernel_rfl) rfl
theorem sl2_view (x y:Int):view (.p (.sl true 2 (Qr [x,y])))=.p (eSl (some [x,y])):=by simp [view,Zw,Zs,Zu,eSl]
theorem S98t (x y:Int) (σ:Qa):Qv CC 98 [.p (.sl true 2 (Qr [x,y]))] σ=some (.p (pI (orL [x,y]))):=by
 rw [Wc (args':=[.p (eSl (some [x,y]))]) (by simp [sl2_view]) (by simp [Zf])]
 exact S98 (o:=some [x,y]) (by simp)
section
variable {σ : Qa} {x : Ax} (h : σ[0]? = some (.mix (eAx x))) (hs : XSm x) (hl : (L x.a).length = (L x.b).length)
include h hs
theorem L67_end (lo:Nat) (c b:Bool) (i:Nat) (hi:(L x.b).length<=i):f67_L0 Qb lo (.ptr 0 0) (.p (.bool c)) (.p (.bool b)) (N i) σ=some (.p (pI (if (c||(L x.a).any bA)=true then 3 else if b=true then 0 else 13)),σ):=by
 have hn:¬ ((i:Int)<((L x.b).length:Nat)):=by omega
 have h53:∀ a d:Int,Qv CC 53 [.p (.sl true 2 (Qr [a,d]))] σ=some (.p (pI (orL [a,d]))):=fun a d=>S53t (l:=[a,d]) rfl (by simp)
 rw [f67_L0_eq Qb rfl]
 cases c with
 | true=>
  simp only [N,Wi,Vd,gP,ax_b h,ax_a h,QZ,Qn,ltF hn,gG,S73,Bool.false_eq_true,if_false,Uj,h53,Bool.true_or,if_true]
  rfl
 | false=>
  simp only [N,Wi,Vd,gP,ax_b h,ax_a h,QZ,Qn,ltF hn,gG,S82 hs.a,S73,Uj,h53,Bool.false_or]
  cases (L x.a).any bA <;> cases b <;> rfl
include hl
theorem L67 (lo:Nat) (c:Bool):∀ (k i:Nat) (b:Bool),(L x.b).length-i=k->1<=i->f67_L0 Qb lo (.ptr 0 0) (.p (.bool c)) (.p (.bool b)) (N i) σ =
  some (.p (pI (if (c||(L x.a).any bA)=true then 3 else if (b&&QK (ascK (L x.b) (L x.a)) i k)=true then 0 else 13)),σ)
 | 0,i,b,hk,hi=>by
  rw [L67_end h hs lo c b i (by omega),QK,Bool.and_true]
 | k+1,i,b,hk,hi=>by
  have hib:i<(L x.b).length:=by omega
  have hia:i<(L x.a).length:=by omega
  have hib':(i:Int)<((L x.b).length:Nat):=by omega
  have h1000:=hs.b
  have ih:=fun b=>L67 lo c k (i+1) b (by omega) (by omega)
  rw [f67_L0_eq Qb rfl,QK]
  cases b with
  | false=>
   simp (disch:=omega) only [N,Wi,gP,ax_b h,QZ,Qn,ltT hib',gG,add1]
   refine (ih _).trans ?_
   simp only [Bool.false_and]
  | true=>
   simp (disch:=omega) only [N,Wi,Vd,gP,ax_b h,ax_a h,QZ,Qn,ltT hib',gG,sub1,idxL,QF,ldL,S99,bs22_2,S98t,add1]
   refine (ih _).trans ?_
   simp only [Bool.true_and,ascK]
end
theorem extE_ok (x:Ax):(lenX x=true)↔((L x.b).length:Int)=x.g.n/\((L x.a).length:Int)=x.g.n:=by
 simp [lenX]
theorem S67 {x:Ax} {σ:Qa} (hs:XSm x):Qv CC 67 [.agg (eAx x)] σ=some (.p (pI (extE x))):=by
 have g0:([Row.mix (eAx x)]:Qa)[0]?=some (.mix (eAx x)):=rfl
 have gl:([Row.mix (eAx x)]:Qa).length=1:=rfl
 refine Qk (by simp [WZ]) rfl (F67_call (r:=(.p (pI (extE x)),[.mix (eAx x)])) ?_) rfl
 rw [F67_eq]
 simp only [Ua,Qz,List.length_nil,List.nil_append]
 generalize ([Row.mix (eAx x)]:Qa)=τ at *
 have h96:=fun σ=>S96 (g:=x.g) (σ:=σ) hs.i hs.e
 have h53:∀ (a d:Int) (σ:Qa),Qv CC 53 [.p (.sl true 2 (Qr [a,d]))] σ=some (.p (pI (orL [a,d]))):=fun a d σ=>S53t (l:=[a,d]) rfl (by simp)
 have hB:=fun σ=>S86 (o:=x.b) (σ:=σ) (q:=bB) hs.b fun σ0 (_:AtSt [] σ σ0) v=>S97 v σ0
 simp only [Wq,Wi,Vd,We,gP,ax_g g0,ax_b g0,ax_a g0,ax_n g0,h96,S73,QZ,QV,gG]
 cases hg:isG x.g with
 | false=>
  have e:extE x=5:=by simp [extE,hg]
  rw [e]
  by_cases h1:((L x.b).length:Int)=x.g.n
  ·by_cases h2:((L x.a).length:Int)=x.g.n
   ·simp only [Wq,Wi,Vd,We,gP,ax_g g0,ax_b g0,ax_a g0,ax_n g0,QZ,QV,eqT h1,eqT h2,gG,Uj,h53,Wh,Bool.false_eq_true,if_false,if_true,orL,S73]
    rfl
   ·simp only [Wq,Wi,Vd,We,gP,ax_g g0,ax_b g0,ax_a g0,ax_n g0,QZ,QV,eqT h1,eqF h2,gG,Uj,h53,Wh,Bool.false_eq_true,if_false,if_true,orL,S73]
    rfl
  ·simp only [eqF h1,gG,Uj,h53,Wh,Bool.false_eq_true,if_false,if_true,orL,S73]
   rfl
 | true=>
  by_cases h1:((L x.b).length:Int)=x.g.n
  ·by_cases h2:((L x.a).length:Int)=x.g.n
   ·have hl:(L x.a).length=(L x.b).length:=by omega
    have e:extE x=if ((L x.b).any bB||(L x.a).any bA)=true then 3 else if (true&&QK (ascK (L x.b) (L x.a)) 1 ((L x.b).length-1))=true then 0 else 13:=by
     rw [extE,if_pos hg,if_pos ((extE_ok x).2 ⟨h1,h2⟩)]; rfl
    have hL:=L67 g0 hs hl 0 ((L x.b).any bB) ((L x.b).length-1) 1 true rfl (Nat.le_refl _)
    rw [<-e] at hL
    have hL:f67_L0 Qb 0 (.ptr 0 0) (.p (.bool ((L x.b).any bB))) (.p (.bool true)) (.p (.int .i64 1)) τ=some (.p (pI (extE x)),τ):=hL
    simp only [Wq,Wi,Vd,We,gP,ax_g g0,ax_b g0,ax_a g0,ax_n g0,QZ,QV,eqT h1,eqT h2,gG,Uj,h53,Wh,if_true,orL,S73,hB,hL,eqT (rfl:(0:Int)=0)]
   ·have e:extE x=6:=by
     rw [extE,if_pos hg,if_neg (fun h=>h2 ((extE_ok x).1 h).2)]
    rw [e]
    simp only [Wq,Wi,Vd,We,gP,ax_g g0,ax_b g0,ax_a g0,ax_n g0,QZ,QV,eqT h1,eqF h2,gG,Uj,h53,Wh,Bool.false_eq_true,if_false,if_true,orL,S73]
    rfl
  ·have e:extE x=6:=by
    rw [extE,if_pos hg,if_neg (fun h=>h1 ((extE_ok x).1 h).1)]
   rw [e]
   simp only [eqF h1,gG,Uj,h53,Wh,Bool.false_eq_true,if_false,if_true,orL,S73]
   rfl
section
variable {σ : Qa} {x : Ax} (h : σ[0]? = some (.mix (eAx x))) (hs : XSm x) (hl : (L x.a).length = (L x.b).length)
include h hs hl
end
end Go.D
end
/- What a call's arguments are: plain data of any type without pointers, as values of D. For any program. -/
section
set_option linter.unusedVariables false
set_option linter.unusedSimpArgs false
namespace Go.D
mutual
inductive Plain (P:Program):TypeId->List PV->Prop where
 | bool {t:TypeId} (h:P.underlying t=some .bool) (b:Bool):Plain P t [.bool b]
 | int {t:TypeId} {k:IntKind} (h:P.underlying t=some (.int k)) (n:Int) (hw:(Lit.int k n).wf=true):Plain P t [.int k n]
 | str {t:TypeId} (h:P.underlying t=some .string) (s:ByteArray) (hs:s.size<=maxLen):Plain P t [.str s]
 | nilsl {t e:TypeId} (h:P.underlying t=some (.slice e)):Plain P t [.nilsl]
 | sl {t e:TypeId} (h:P.underlying t=some (.slice e)) (n:Nat) (cs:List PV) (hx:PlainL P (List.replicate n e) cs):Plain P t [.sl false n cs]
 | struct {t:TypeId} {fs:Array Field} (h:P.underlying t=some (.struct fs)) (cs:List PV) (hx:PlainL P (fs.toList.map (·.type)) cs):Plain P t cs
 | array {t e:TypeId} {n:Nat} (h:P.underlying t=some (.array n e)) (cs:List PV) (hx:PlainL P (List.replicate n e) cs):Plain P t cs
inductive PlainL (P:Program):List TypeId->List PV->Prop where
 | nil:PlainL P [] []
 | cons {t:TypeId} {ts:List TypeId} {a b:List PV} (h:Plain P t a) (hs:PlainL P ts b):PlainL P (t::ts) (a++b)
end
/-! ### Taking apart -/
section
variable {P : Program} {t e : TypeId} {k : IntKind} {cs : List PV}
theorem Plain.inv_int (hu:P.underlying t=some (.int k)) (h:Plain P t cs):∃ n,(Lit.int k n).wf=true/\cs=[.int k n]:=by
 cases h with
 | int h n hw=>
  rw [hu] at h
  injection h with h
  injection h with h
  exact ⟨n,by rw [h]; exact hw,by rw [h]⟩
 | _ h=>rw [hu] at h; injection h with h; exact absurd h (by simp)
theorem Plain.inv_bool (hu:P.underlying t=some .bool) (h:Plain P t cs):∃ b,cs=[.bool b]:=by
 cases h with
 | bool h b=>exact ⟨b,rfl⟩
 | _ h=>rw [hu] at h; injection h with h; exact absurd h (by simp)
theorem Plain.inv_str (hu:P.underlying t=some .string) (h:Plain P t cs):∃ s,s.size<=maxLen/\cs=[.str s]:=by
 cases h with
 | str h s hs=>exact ⟨s,hs,rfl⟩
 | _ h=>rw [hu] at h; injection h with h; exact absurd h (by simp)
theorem Plain.inv_slice (hu:P.underlying t=some (.slice e)) (h:Plain P t cs):cs=[.nilsl]\/∃ n xs,PlainL P (List.replicate n e) xs/\cs=[.sl false n xs]:=by
 cases h with
 | nilsl h=>exact .inl rfl
 | sl h n xs hx=>
  rw [hu] at h
  injection h with h
  injection h with h
  exact .inr ⟨n,xs,by rw [h]; exact hx,rfl⟩
 | _ h=>rw [hu] at h; injection h with h; exact absurd h (by simp)
theorem Plain.inv_struct {fs:Array Field} (hu:P.underlying t=some (.struct fs)) (h:Plain P t cs):PlainL P (fs.toList.map (·.type)) cs:=by
 cases h with
 | struct h xs hx=>
  rw [hu] at h
  injection h with h
  injection h with h
  rw [h]; exact hx
 | _ h=>rw [hu] at h; injection h with h; exact absurd h (by simp)
theorem Plain.inv_array {n:Nat} (hu:P.underlying t=some (.array n e)) (h:Plain P t cs):PlainL P (List.replicate n e) cs:=by
 cases h with
 | array h xs hx=>
  rw [hu] at h
  injection h with h
  injection h with h1 h2
  rw [h1,h2]; exact hx
 | _ h=>rw [hu] at h; injection h with h; exact absurd h (by simp)
theorem PlainL.inv_nil (h:PlainL P [] cs):cs=[]:=by cases h; rfl
theorem PlainL.inv_cons {ts:List TypeId} (h:PlainL P (t::ts) cs):∃ a b,Plain P t a/\PlainL P ts b/\cs=a++b:=by
 cases h with
 | cons h hs=>exact ⟨_,_,h,hs,rfl⟩
theorem PlainL.inv_rep {α:Type} {f:α->List PV} (hf:∀ a,Plain P t a->∃ x,a=f x):∀ {n:Nat} {cs:List PV},PlainL P (List.replicate n t) cs->∃ xs:List α,xs.length=n/\cs=xs.flatMap f
 | 0,cs,h=>⟨[],rfl,h.inv_nil⟩
 | n+1,cs,h=>by
  obtain ⟨a,b,h1,h2,rfl⟩:=PlainL.inv_cons (ts:=List.replicate n t) h
  obtain ⟨x,rfl⟩:=hf a h1
  obtain ⟨xs,h3,rfl⟩:=PlainL.inv_rep hf h2
  exact ⟨x::xs,by simp [h3],by simp⟩
end
/-! ### Types that are read -/
def Jg (P:Program) (ok:TypeId->Bool) (total:Nat):Nat->List Field->Bool
 | off,[]=>off==total
 | off,f::fs=>f.offset==off&&ok f.type&&Jg P ok total (off+P.cellsOf f.type) fs
def VT (P:Program):Nat->TypeId->Bool
 | 0,_=>false
 | n+1,t=>match P.underlying t with
  | some .bool | some (.int _) | some .string=>true
  | some (.slice e)=>decide (0<P.cellsOf e)&&VT P n e
  | some (.struct fs)=>Jg P (VT P n) (P.cellsOf t) 0 fs.toList
  | some (.array m e)=>m*P.cellsOf e==P.cellsOf t&&VT P n e
  | _=>false
section
variable {H : Type} {enc : TypeId × Value -> H} {W : World} {P : Program} {hd : Bool}
abbrev memR (W:World):Mem:=fun b o=>W.cell? ⟨b,o,none⟩
theorem spot_cell {a:Addr} {v:Value} (h:W.cell? a=some v):a.spot=none:=by
 unfold World.cell? at h
 split at h
 ·split at h
  ·exact absurd h (by simp)
  ·rename_i hs
   cases e:a.spot with
   | none=>rfl
   | some s=>rw [e] at hs; exact absurd rfl hs
 ·exact absurd h (by simp)
theorem addr_eq {a:Addr} {n:Nat} (h:a.spot=none):a.add n=⟨a.block,a.off+n,none⟩:=by
 cases a with
 | mk b o s=>cases h; exact Addr.add_mid b o n
def RelL (M:Mem) (ps:List PV) (vs:List Value):Prop:=ps.length=vs.length/\∀ j (h1:j<ps.length) (h2:j<vs.length),PRel M ps[j] vs[j]
theorem RelL.append {M:Mem} {a c:List PV} {b d:List Value} (h:RelL M a b) (h2:RelL M c d):RelL M (a++c) (b++d):=by
 refine ⟨by simp [h.1,h2.1],fun j h3 h4=>?_⟩
 by_cases hj:j<a.length
 ·rw [List.getElem_append_left hj,List.getElem_append_left (by rw [<-h.1]; exact hj)]
  exact h.2 j hj _
 ·rw [List.getElem_append_right (by omega),List.getElem_append_right (by rw [<-h.1]; omega)]
  have e:j-b.length=j-a.length:=by rw [h.1]
  simp only [e]
  refine h2.2 _ (by simp at h3; omega) ?_
theorem elems_read {e:TypeId} {sz:Nat} {b:Nat}:∀ (n o:Nat),
  (∀ i,i<n->∃ ps vs,Plain P e ps/\vs.length=sz/\RelL (memR W) ps vs/\∀ j (h:j<vs.length),W.cell? ⟨b,o+i*sz+j,none⟩=some vs[j])->
  ∃ cs vs,PlainL P (List.replicate n e) cs/\vs.length=n*sz/\RelL (memR W) cs vs/\∀ j (h:j<vs.length),W.cell? ⟨b,o+j,none⟩=some vs[j]
 | 0,o,h=>⟨[],[],.nil,by simp,⟨rfl,fun j h1 _=>absurd h1 (by simp)⟩,fun j h=>absurd h (by simp)⟩
 | n+1,o,h=>by
  obtain ⟨ps,vs,h1,h2,h3,h4⟩:=h 0 (by omega)
  obtain ⟨cs,ws,g1,g2,g3,g4⟩:=elems_read n (o+sz) fun i hi=>by
   obtain ⟨ps,vs,k1,k2,k3,k4⟩:=h (i+1) (by omega)
   refine ⟨ps,vs,k1,k2,k3,fun j hj=>?_⟩
   have:o+sz+i*sz+j=o+(i+1)*sz+j:=by rw [Nat.add_mul]; omega
   rw [this]
   exact k4 j hj
  refine ⟨ps++cs,vs++ws,.cons h1 g1,by simp [h2,g2,Nat.add_mul]; omega,h3.append g3,fun j hj=>?_⟩
  by_cases hjv:j<vs.length
  ·rw [List.getElem_append_left hjv]
   have:=h4 j hjv
   simpa using this
  ·rw [List.getElem_append_right (by omega)]
   have:=g4 (j-vs.length) (by simp at hj; omega)
   have e2:o+sz+(j-vs.length)=o+j:=by omega
   rwa [e2] at this
theorem layOk_le {ok:TypeId->Bool} {total:Nat}:∀ (fs:List Field) (off:Nat),Jg P ok total off fs=true->off<=total
 | [],off,h=>by
  have:off=total:=by simpa [Jg] using h
  omega
 | f::fs,off,h=>by
  simp only [Jg,Bool.and_eq_true] at h
  have:=layOk_le fs _ h.2
  omega
theorem fields_read {ok:TypeId->Bool} {total:Nat} {cs:List Value} (hc:cs.length=total):∀ (fs:List Field) (off:Nat),Jg P ok total off fs=true->
  (∀ f∈fs,ok f.type=true->∃ ps,Plain P f.type ps/\RelL (memR W) ps ((cs.drop f.offset).take (P.cellsOf f.type)))->
  ∃ ps,PlainL P (fs.map (·.type)) ps/\RelL (memR W) ps (cs.drop off)
 | [],off,h,hf=>by
  have:off=total:=by simpa [Jg] using h
  refine ⟨[],.nil,?_⟩
  rw [List.drop_eq_nil_of_le (by omega)]
  exact ⟨rfl,fun j h1 _=>absurd h1 (by simp)⟩
 | f::fs,off,h,hf=>by
  simp only [Jg,Bool.and_eq_true,beq_iff_eq] at h
  obtain ⟨⟨h1,h2⟩,h3⟩:=h
  obtain ⟨ps,g1,g2⟩:=hf f (by simp) h2
  obtain ⟨qs,k1,k2⟩:=fields_read hc fs _ h3 fun g hg=>hf g (by simp [hg])
  refine ⟨ps++qs,.cons g1 k1,?_⟩
  have e:cs.drop off=(cs.drop off).take (P.cellsOf f.type)++cs.drop (off+P.cellsOf f.type):=by
   rw [<-List.drop_drop,List.take_append_drop]
  rw [h1] at g2
  rw [e]
  exact g2.append k2
theorem parts_read {e:TypeId} {sz:Nat} {cs:List Value}:∀ (n off:Nat),cs.length=off+n*sz->
  (∀ i,i<n->∃ ps,Plain P e ps/\RelL (memR W) ps ((cs.drop (off+i*sz)).take sz))->∃ ps,PlainL P (List.replicate n e) ps/\RelL (memR W) ps (cs.drop off)
 | 0,off,hc,h=>by
  refine ⟨[],.nil,?_⟩
  rw [List.drop_eq_nil_of_le (by omega)]
  exact ⟨rfl,fun j h1 _=>absurd h1 (by simp)⟩
 | n+1,off,hc,h=>by
  obtain ⟨ps,g1,g2⟩:=h 0 (by omega)
  obtain ⟨qs,k1,k2⟩:=parts_read (sz:=sz) n (off+sz) (by rw [hc,Nat.add_mul]; omega) fun i hi=>by
   obtain ⟨ps,a1,a2⟩:=h (i+1) (by omega)
   refine ⟨ps,a1,?_⟩
   have:off+(i+1)*sz=off+sz+i*sz:=by rw [Nat.add_mul]; omega
   rwa [this] at a2
  refine ⟨ps++qs,.cons g1 k1,?_⟩
  have e:cs.drop off=(cs.drop off).take sz++cs.drop (off+sz):=by
   rw [<-List.drop_drop,List.take_append_drop]
  rw [Nat.zero_mul,Nat.add_zero] at g2
  rw [e]
  exact g2.append k2
theorem read_plain:∀ (m fuel:Nat) (t:TypeId) (cs:List Value) (x:DataW H×List MemPlace),VT P m t=true->DataW.trod enc P W 0 (fun _=>true) hd fuel t cs=some x->∃ ps,Plain P t ps/\RelL (memR W) ps cs
 | 0,_,_,_,_,hp,_=>by simp [VT] at hp
 | m+1,fuel,t,cs,x,hp,h=>by
  unfold VT at hp
  split at hp
  ·rename_i hu
   obtain ⟨b,rfl,_⟩:=DataW.trod_bool hu h
   refine ⟨[.bool b],.bool hu b,rfl,fun j h1 h2=>?_⟩
   match j,h1 with
   | 0,_=>exact .bool b
  ·rename_i k hu
   obtain ⟨n,rfl,_,hw⟩:=DataW.trod_int hu h
   refine ⟨[.int k n],.int hu n hw,rfl,fun j h1 h2=>?_⟩
   match j,h1 with
   | 0,_=>exact .int k n
  ·rename_i hu
   obtain ⟨s,rfl,_,hs⟩:=DataW.trod_string hu h
   refine ⟨[.str s],.str hu s hs,rfl,fun j h1 h2=>?_⟩
   match j,h1 with
   | 0,_=>exact .str s
  ·rename_i e hu
   simp only [Bool.and_eq_true,decide_eq_true_eq] at hp
   obtain ⟨hsz,hpe⟩:=hp
   rcases DataW.trod_slice hu h with ⟨rfl,_⟩ | ⟨a,len,cap,elems,rest,n,_,rfl,_,_,hl,hm,hlen,hel,hrest,_⟩
   ·refine ⟨[.nilsl],.nilsl hu,rfl,fun j h1 h2=>?_⟩
    match j,h1 with
    | 0,_=>exact .nilsl
   ·have hrest:=hrest rfl
    have hspot:cap≠0->a.spot=none:=by
     intro hc
     have key:∃ cs,W.cells? 0 (a.add 0) (P.cellsOf e)=some cs:=by
      by_cases h0:0<len
      ·have h1:=hel 0 h0
       rw [List.getElem?_eq_getElem (by omega)] at h1
       obtain ⟨cs,h2,_⟩:=Option.bind_eq_some_iff.1 h1
       exact ⟨cs,by simpa using h2⟩
      ·have h1:=hrest.2 0 (by omega)
       rw [List.getElem?_eq_getElem (by omega)] at h1
       obtain ⟨cs,h2,_⟩:=Option.bind_eq_some_iff.1 h1
       have hl0:len=0:=by omega
       exact ⟨cs,by simpa [hl0] using h2⟩
     obtain ⟨cs,h2⟩:=key
     obtain ⟨_,h3,h4⟩:=World.cells?_some h2
     have h5:=h4 0 hsz
     rw [List.getElem?_eq_getElem (by omega)] at h5
     exact spot_cell (a:=a) h5
    obtain ⟨ps,vs,g1,g2,g3,g4⟩:=elems_read (P:=P) (W:=W) (e:=e) (sz:=P.cellsOf e) (b:=a.block) len a.off fun i hi=>by
     have h1:=hel i hi
     rw [List.getElem?_eq_getElem (by omega)] at h1
     obtain ⟨vs,h2,h3⟩:=Option.bind_eq_some_iff.1 h1
     obtain ⟨ps,k1,k2⟩:=read_plain m n e vs _ hpe h3
     obtain ⟨_,h5,h4⟩:=World.cells?_some h2
     refine ⟨ps,vs,k1,h5,k2,fun j hj=>?_⟩
     have h6:=h4 j (by omega)
     have hs:=hspot (by omega)
     rw [addr_eq hs,addr_eq rfl,List.getElem?_eq_getElem hj] at h6
     exact h6
    refine ⟨[.sl false len ps],.sl hu len ps g1,rfl,fun j h1 h2=>?_⟩
    match j,h1 with
    | 0,_=>
     refine .sl (fun j=>vs.getD j Go.undef) hspot hl (by simp) (fun j hj=>?_) (fun j hj=>?_)
     ·have hj2:j<vs.length:=by rw [<-g3.1]; exact hj
      show W.cell? _=_
      rw [List.getD_eq_getElem?_getD,List.getElem?_eq_getElem hj2]
      exact g4 j hj2
     ·have hj2:j<vs.length:=by rw [<-g3.1]; exact hj
      rw [List.getD_eq_getElem?_getD,List.getElem?_eq_getElem hj2]
      exact g3.2 j hj hj2
  ·rename_i fs hu
   obtain ⟨xs,n,_,_,hl,hlen,hf⟩:=DataW.trod_struct hu h
   obtain ⟨ps,g1,g2⟩:=fields_read (P:=P) (W:=W) hl fs.toList 0 hp fun f hfm hok=>by
    obtain ⟨i,hi,rfl⟩:=List.getElem_of_mem hfm
    have hi2:i<fs.size:=by simpa using hi
    have h1:=hf i fs[i] (by simp [hi2])
    rw [List.getElem?_eq_getElem (by omega)] at h1
    simp only [Array.getElem_toList] at hok ⊢
    obtain ⟨ps,k1,k2⟩:=read_plain m n _ _ _ hok h1
    exact ⟨ps,k1,k2⟩
   exact ⟨ps,.struct hu ps g1,g2⟩
  ·rename_i k e hu
   simp only [Bool.and_eq_true,beq_iff_eq] at hp
   obtain ⟨xs,n,_,_,hl,hlen,hf⟩:=DataW.trod_array hu h
   obtain ⟨ps,g1,g2⟩:=parts_read (P:=P) (W:=W) (e:=e) (sz:=P.cellsOf e) (cs:=cs) k 0 (by rw [hl,<-hp.1]; omega) fun i hi=>by
    have h1:=hf i hi
    rw [List.getElem?_eq_getElem (by omega)] at h1
    obtain ⟨ps,k1,k2⟩:=read_plain m n _ _ _ hp.2 h1
    rw [Nat.zero_add]
    exact ⟨ps,k1,k2⟩
   exact ⟨ps,.array hu ps g1,g2⟩
  ·exact absurd hp (by simp)
/-! ### Arguments -/
theorem relL_agg {ps:List PV} {vs:Array Value} (h:RelL (memR W) ps vs.toList):VRel (fun _ _=>none) (memR W) (.agg (ps.map .p)) (.agg vs):=by
 refine .agg (by have:=h.1; simp at this; simp [this]) fun j h1 h2=>?_
 have:=h.2 j (by simpa using h1) (by simpa using h2)
 simp only [List.getElem_map]
 exact .p (by simpa using this)
theorem relL_one {p:PV} {v:Value} (h:RelL (memR W) [p] [v]):VRel (fun _ _=>none) (memR W) (.p p) v:=.p (h.2 0 (by simp) (by simp))
variable {r : Reach} {b0 : Nat} {v : Value} {d : DataW H} {ps : List MemPlace} {t : TypeId}
theorem read_struct {fs:Array Field} (m:Nat) (hu:P.underlying t=some (.struct fs)) (hp:VT P m t=true) (hok:Value.okWide P W r b0 t v) (h:DataW.Trod enc P W 0 (fun _=>true) hd t v d ps) :
  ∃ cs,Plain P t cs/\VRel (fun _ _=>none) (memR W) (.agg (cs.map .p)) v:=by
 simp only [Value.okWide,hu] at hok
 obtain ⟨vs,rfl,_⟩:=hok
 obtain ⟨fuel,h⟩:=h
 obtain ⟨cs,h1,h2⟩:=read_plain m fuel t _ _ hp h
 exact ⟨cs,h1,relL_agg h2⟩
theorem read_array {n:Nat} {e:TypeId} (m:Nat) (hu:P.underlying t=some (.array n e)) (hp:VT P m t=true) (hok:Value.okWide P W r b0 t v) (h:DataW.Trod enc P W 0 (fun _=>true) hd t v d ps) :
  ∃ cs,Plain P t cs/\VRel (fun _ _=>none) (memR W) (.agg (cs.map .p)) v:=by
 simp only [Value.okWide,hu] at hok
 obtain ⟨vs,rfl,_⟩:=hok
 obtain ⟨fuel,h⟩:=h
 obtain ⟨cs,h1,h2⟩:=read_plain m fuel t _ _ hp h
 exact ⟨cs,h1,relL_agg h2⟩
theorem read_slice {e:TypeId} (m:Nat) (hu:P.underlying t=some (.slice e)) (hp:VT P m t=true) (hok:Value.okWide P W r b0 t v) (h:DataW.Trod enc P W 0 (fun _=>true) hd t v d ps) :
  ∃ c,Plain P t [c]/\VRel (fun _ _=>none) (memR W) (.p c) v:=by
 obtain ⟨a0,len,cap,rfl⟩:=Go.WideShapes.okWide_slice hu hok
 obtain ⟨fuel,h⟩:=h
 obtain ⟨cs,h1,h2⟩:=read_plain m fuel t _ _ hp h
 rcases h1.inv_slice hu with rfl | ⟨n,xs,_,rfl⟩
 ·exact ⟨_,h1,relL_one h2⟩
 ·exact ⟨_,h1,relL_one h2⟩
theorem read_intA {k:IntKind} (hu:P.underlying t=some (.int k)) (hok:Value.okWide P W r b0 t v) (h:DataW.Trod enc P W 0 (fun _=>true) hd t v d ps) :
  ∃ n,(Lit.int k n).wf=true/\VRel (fun _ _=>none) (memR W) (.p (.int k n)) v:=by
 obtain ⟨n,rfl⟩:=Go.WideShapes.okWide_int hu hok
 obtain ⟨fuel,h⟩:=h
 obtain ⟨n',h1,_,h2⟩:=DataW.trod_int hu h
 have:n=n':=by simpa [Value.cells] using h1
 subst this
 exact ⟨n,h2,.p (.int _ _)⟩
theorem read_strA (hu:P.underlying t=some .string) (hok:Value.okWide P W r b0 t v) (h:DataW.Trod enc P W 0 (fun _=>true) hd t v d ps) :
  ∃ s,s.size<=maxLen/\VRel (fun _ _=>none) (memR W) (.p (.str s)) v:=by
 obtain ⟨s,rfl⟩:=Go.WideShapes.okWide_string hu hok
 obtain ⟨fuel,h⟩:=h
 obtain ⟨s',h1,_,h2⟩:=DataW.trod_string hu h
 have:s=s':=by simpa [Value.cells] using h1
 subst this
 exact ⟨s,h2,.p (.str _)⟩
end
end Go.D
end
/- Chapter 22: from what D answers to what the program answers in any world; what a call's arguments are. -/
section
set_option linter.unusedVariables false
set_option linter.unusedSimpArgs false
set_option maxRecDepth 100000
namespace Go.D
open Go.ChangeShapes Go.WideShapes Go.ChangeAt Go.RowKit
def memOf (W:World):Mem:=fun b o=>W.cell? ⟨b,o,none⟩
theorem below_of {C:Nat->Nat->Prop} {m:Nat->Prop} {w w':World} (h:Frm C m w w') (hC:∀ b o,¬ C b o) (hm:∀ b,¬ m b):Below w.heap.size w w':=by
 refine ⟨h.os,h.tape,h.output,h.size,fun k hk=>?_⟩
 have:=h.obj k hk
 rw [Array.getElem?_eq_getElem hk] at this ⊢
 cases ho:w.heap[k] with
 | cells c e f=>
  rw [ho] at this
  cases hx:w'.heap[k]? with
  | none=>rw [hx] at this; simp [ObjKept] at this
  | some o=>
   rw [hx] at this
   cases o with
   | cells c' e' f'=>
    obtain ⟨h1,h2,h3,h4⟩:=this
    subst h1; subst h2
    have:c'=c:=Array.ext_getElem? fun i=>by rw [h4 i (hC k i)]
    rw [this]
   | _=>simp [ObjKept] at this
 | map es c=>
  rw [ho] at this
  cases hx:w'.heap[k]? with
  | none=>rw [hx] at this; simp [ObjKept] at this
  | some o=>
   rw [hx] at this
   cases o with
   | map es' c'=>
    rcases this with h1 | ⟨h1,h2⟩
    ·exact absurd h1 (hm k)
    ·rw [h1,h2]
   | _=>simp [ObjKept] at this
 | _=>
  rw [ho] at this
  cases hx:w'.heap[k]? with
  | none=>rw [hx] at this; simp [ObjKept] at this
  | some o=>rw [hx] at this; cases o <;> simp [ObjKept] at this <;> simp_all
theorem mixed_ok:PP.follows .mixedOrders=true:=by kernel_rfl
theorem seqs_ok:∀ g f kind,(pol g).seq f=some kind->SeqOk PP f kind:=by
 intro g f kind h
 have h1:(pol g).seq=fun _=>none:=by
  unfold pol
  split <;> rfl
 rw [h1] at h
 exact absurd h (by simp)
theorem calls_of {f:FuncId} {args:List DV} {σ':Qa} {b:Bool} (h:CC 0 f args []=some (.p (.bool b),σ')) {W:World} {vs:Array Value} (hv:Vals (fun _ _=>none) (memOf W) args vs) :
  Calls PP f vs W fun e W'=>e=.returned (.bool b)/\Below W.heap.size W W':=by
 obtain ⟨k,hk⟩:=VA h
 have hs:SRel [] (fun _ _=>none) (memOf W) W:=srel_bare fun b o v h=>h
 obtain ⟨_,hc⟩:=callK_ok mixed_ok seqs_ok k _ _ _ _ _ _ (hk k (Nat.le_refl _)) (Nat.zero_le _) _ _ _ _ hs hv
 have hw:=callsIn_wide.1 (hc Fence.wide 0 Free.wide)
 refine hw.mono ?_
 rintro e W' ⟨v',rfl,L',M',hp,hr⟩
 refine ⟨by rw [WB hr],below_of hp.frm ?_ ?_⟩
 ·rintro b o ⟨r,row,l,_,⟨h,_⟩,_⟩
  exact absurd h (by simp)
 ·rintro b ⟨r,es,l,_,⟨h,_⟩,_⟩
  exact absurd h (by simp)
theorem own_ok:ownKnob PP.godebug=none:=by kernel_rfl
theorem laidOut_ok:laidOutB PP=true:=by kernel_rfl
theorem ul4:PP.underlying 4=some .bool:=by kernel_rfl
def Awake:Prop:=∀ σ,Qv CC 9 [] σ=some (.p (.bool true))
theorem ul3:PP.underlying 3=some (.int .i64):=by kernel_rfl
theorem dec3 {a:List PV} (h:Plain PP 3 a):∃ n,a=[pI n]:=by
 obtain ⟨n,_,rfl⟩:=h.inv_int ul3
 exact ⟨n,rfl⟩
theorem flat1 {α:Type} (f:α->PV) (l:List α):l.flatMap (fun a=>[f a])=l.map f:=by
 induction l with
 | nil=>rfl
 | cons a l ih=>simp [ih]
theorem dec22 {a:List PV} (h:Plain PP 22 a):∃ o,a=[eSl o]:=by
 rcases h.inv_slice u22 with rfl | ⟨n,xs,hx,rfl⟩
 ·exact ⟨none,rfl⟩
 ·obtain ⟨l,rfl,rfl⟩:=hx.inv_rep (f:=fun n=>[pI n]) fun a ha=>dec3 ha
  exact ⟨some l,by rw [flat1]; rfl⟩
theorem dec69 {a:List PV} (h:Plain PP 69 a):∃ e:Edg,a=[pI e.f,pI e.t,pI e.a]:=by
 have h1:=h.inv_struct Go.Proofs.Tryz.underlying69
 obtain ⟨a1,b1,h2,h3,rfl⟩:=PlainL.inv_cons h1
 obtain ⟨a2,b2,h4,h5,rfl⟩:=PlainL.inv_cons h3
 obtain ⟨a3,b3,h6,h7,rfl⟩:=PlainL.inv_cons h5
 obtain ⟨x,rfl⟩:=dec3 h2
 obtain ⟨y,rfl⟩:=dec3 h4
 obtain ⟨z,rfl⟩:=dec3 h6
 obtain rfl:=PlainL.inv_nil h7
 exact ⟨⟨x,y,z⟩,rfl⟩
theorem flat69 (l:List Edg):l.flatMap (fun e=>[pI e.f,pI e.t,pI e.a])=Zd l:=by
 induction l with
 | nil=>rfl
 | cons a l ih=>simp [ih,Zd]
theorem dec23 {a:List PV} (h:Plain PP 23 a):∃ o,a=[eEs o]:=by
 rcases h.inv_slice u23 with rfl | ⟨n,xs,hx,rfl⟩
 ·exact ⟨none,rfl⟩
 ·obtain ⟨l,rfl,rfl⟩:=hx.inv_rep (f:=fun e:Edg=>[pI e.f,pI e.t,pI e.a]) fun a ha=>dec69 ha
  exact ⟨some l,by rw [flat69]; rfl⟩
theorem dec25 {a:List PV} (h:Plain PP 25 a):∃ g:Gr,a=[pI g.n,eSl g.init,eEs g.edges]:=by
 have h1:=h.inv_struct Go.Proofs.Tryz.underlying25
 obtain ⟨a1,b1,h2,h3,rfl⟩:=PlainL.inv_cons h1
 obtain ⟨a2,b2,h4,h5,rfl⟩:=PlainL.inv_cons h3
 obtain ⟨a3,b3,h6,h7,rfl⟩:=PlainL.inv_cons h5
 obtain ⟨x,rfl⟩:=dec3 h2
 obtain ⟨y,rfl⟩:=dec22 h4
 obtain ⟨z,rfl⟩:=dec23 h6
 obtain rfl:=PlainL.inv_nil h7
 exact ⟨⟨x,y,z⟩,rfl⟩
section
variable {H : Type} {enc : TypeId × Value -> H} {W : World} {hd : Bool} {r : Reach} {b0 : Nat} {v : Value} {d : DataW H} {ps : List MemPlace}
theorem read_sl (hok:Value.okWide PP W r b0 22 v) (h:DataW.Trod enc PP W 0 (fun _=>true) hd 22 v d ps):∃ o,VRel (fun _ _=>none) (memOf W) (.p (eSl o)) v:=by
 obtain ⟨c,h1,h2⟩:=read_slice 8 u22 (by kernel_rfl) hok h
 obtain ⟨o,ho⟩:=dec22 h1
 injection ho with ho
 exact ⟨o,by rw [<-ho]; exact h2⟩
end
end Go.D
end
/- Sorting in place, in plain terms: what the library's pdqsort does to a list, step by step, and that it sorts. -/
section
set_option linter.unusedVariables false
set_option linter.unusedSimpArgs false
namespace Go.D.Srt
variable {E : Type} [Inhabited E]
abbrev ge (A:List E) (i:Nat):E:=A.getD i default
def swp (A:List E) (i j:Nat):List E:=(A.set i (ge A j)).set j (ge A i)
theorem ge_set {A:List E} {i j:Nat} {v:E} (h:i<A.length):ge (A.set i v) j=if i=j then v else ge A j:=by
 unfold ge
 rw [List.getD_eq_getElem?_getD,List.getD_eq_getElem?_getD]
 by_cases e:i=j
 ·subst e; rw [List.getElem?_set_self h,if_pos rfl]; rfl
 ·rw [List.getElem?_set_ne e,if_neg e]
theorem Qy (A:List E) (i j:Nat):(swp A i j).length=A.length:=by simp [swp]
theorem Uf {A:List E} {i j:Nat} (hi:i<A.length) (hj:j<A.length) (k:Nat):ge (swp A i j) k=if k=j then ge A i else if k=i then ge A j else ge A k:=by
 unfold swp
 rw [ge_set (by rw [List.length_set]; exact hj)]
 by_cases e:j=k
 ·rw [if_pos e,if_pos e.symm]
 ·rw [if_neg e,if_neg (fun h=>e h.symm),ge_set hi]
  by_cases e2:i=k
  ·rw [if_pos e2,if_pos e2.symm]
  ·rw [if_neg e2,if_neg (fun h=>e2 h.symm)]
theorem swp_perm {A:List E} {i j:Nat} (hi:i<A.length) (hj:j<A.length):(swp A i j).Perm A:=by
 have e1:ge A j=A[j]:=by unfold ge; rw [List.getD_eq_getElem?_getD,List.getElem?_eq_getElem hj]; rfl
 have e2:ge A i=A[i]:=by unfold ge; rw [List.getD_eq_getElem?_getD,List.getElem?_eq_getElem hi]; rfl
 unfold swp
 rw [e1,e2]
 exact List.set_set_perm hi hj
structure RP (a b:Nat) (A B:List E):Prop where
 len:B.length=A.length
 out:∀ i,i<a\/b<=i->ge B i=ge A i
 all:∀ P:E->Prop,(∀ i,a<=i->i<b->P (ge A i))->∀ i,a<=i->i<b->P (ge B i)
 perm:B.Perm A
theorem RP.refl (a b:Nat) (A:List E):RP a b A A:=⟨rfl,fun _ _=>rfl,fun _ h=>h,List.Perm.refl _⟩
theorem RP.trans {a b:Nat} {A B C:List E} (h:RP a b A B) (h2:RP a b B C):RP a b A C:=
 ⟨h2.len.trans h.len,fun i hi=>(h2.out i hi).trans (h.out i hi),fun P hp=>h2.all P (h.all P hp),h2.perm.trans h.perm⟩
theorem RP.mono {a b a' b':Nat} {A B:List E} (h:RP a b A B) (ha:a'<=a) (hb:b<=b'):RP a' b' A B:=by
 refine ⟨h.len,fun i hi=>h.out i (by omega),fun P hp i h1 h2=>?_,h.perm⟩
 by_cases hin:a<=i/\i<b
 ·exact h.all P (fun j g1 g2=>hp j (by omega) (by omega)) i hin.1 hin.2
 ·rw [h.out i (by omega)]; exact hp i h1 h2
theorem RP.swap {a b i j:Nat} {A:List E} (hi:a<=i/\i<b) (hj:a<=j/\j<b) (hb:b<=A.length):RP a b A (swp A i j):=by
 refine ⟨Qy _ _ _,fun k hk=>?_,fun P hp k h1 h2=>?_,swp_perm (by omega) (by omega)⟩
 ·rw [Uf (by omega) (by omega),if_neg (by omega),if_neg (by omega)]
 ·rw [Uf (by omega) (by omega)]
  split
  ·exact hp i hi.1 hi.2
  ·split
   ·exact hp j hj.1 hj.2
   ·exact hp k h1 h2
structure Ord (lt:E->E->Bool):Prop where
 asym:∀ x y,lt x y=true->lt y x=false
 trans:∀ x y z,lt y x=false->lt z y=false->lt z x=false
omit [Inhabited E] in
theorem Ord.irr {lt:E->E->Bool} (h:Ord lt) (x:E):lt x x=false:=by
 cases e:lt x x with
 | false=>rfl
 | true=>have:=h.asym x x e; rw [e] at this; exact absurd this (by decide)
def Sd (lt:E->E->Bool) (a b:Nat) (A:List E):Prop:=∀ i j,a<=i->i<j->j<b->lt (ge A j) (ge A i)=false
section
variable {lt : E -> E -> Bool} (H : Ord lt)
def Zb (lt:E->E->Bool) (a:Nat):Nat->List E->List E
 | 0,A=>A
 | j+1,A=>if a<j+1/\lt (ge A (j+1)) (ge A j)=true then Zb lt a j (swp A (j+1) j) else A
def Vl (lt:E->E->Bool) (a:Nat):Nat->Nat->List E->List E
 | 0,_,A=>A
 | r+1,i,A=>Vl lt a r (i+1) (Zb lt a i A)
theorem insIn_rp {a b:Nat}:∀ (j:Nat) (A:List E),a<=j->j<b->b<=A.length->RP a b A (Zb lt a j A)
 | 0,A,ha,hb,hl=>RP.refl _ _ _
 | j+1,A,ha,hb,hl=>by
  unfold Zb
  split
  ·rename_i h
   exact (RP.swap ⟨by omega,by omega⟩ ⟨by omega,by omega⟩ hl).trans (insIn_rp j _ (by omega) (by omega) (by rw [Qy]; exact hl))
  ·exact RP.refl _ _ _
include H in
theorem insIn_sd {a i:Nat}:∀ (j:Nat) (A:List E),a<=j->j<=i->i<A.length->(∀ p q,a<=p->p<q->q<=i->p≠j->q≠j->lt (ge A q) (ge A p)=false)->(∀ q,j<q->q<=i->lt (ge A q) (ge A j)=false)->Sd lt a (i+1) (Zb lt a j A)
 | 0,A,ha,hj,hl,h1,h2=>by
  intro p q hp hpq hq
  by_cases e:p=0
  ·subst e; exact h2 q (by omega) (by omega)
  ·exact h1 p q hp hpq (by omega) e (by omega)
 | j+1,A,ha,hj,hl,h1,h2=>by
  unfold Zb
  split
  ·rename_i h
   have g:=fun k=>Uf (A:=A) (i:=j+1) (j:=j) (by omega) (by omega) k
   refine insIn_sd j _ (by omega) (by omega) (by rw [Qy]; exact hl) (fun p q hp hpq hq hpj hqj=>?_) (fun q hq hqi=>?_)
   ·rw [g,g,if_neg hqj,if_neg hpj]
    by_cases e1:q=j+1
    ·rw [if_pos e1,if_neg (by omega)]
     exact h1 p j hp (by omega) (by omega) (by omega) (by omega)
    ·rw [if_neg e1]
     by_cases e2:p=j+1
     ·rw [if_pos e2]
      exact h1 j q (by omega) (by omega) hq (by omega) e1
     ·rw [if_neg e2]
      exact h1 p q hp hpq hq e2 e1
   ·rw [g,g,if_neg (by omega),if_pos rfl]
    by_cases e1:q=j+1
    ·rw [if_pos e1]; exact H.asym _ _ h.2
    ·rw [if_neg e1]; exact h2 q (by omega) hqi
  ·rename_i h
   intro p q hp hpq hq
   by_cases e1:p=j+1
   ·subst e1; exact h2 q hpq (by omega)
   ·by_cases e2:q=j+1
    ·subst e2
     have hlt:lt (ge A (j+1)) (ge A j)=false:=by
      cases e:lt (ge A (j+1)) (ge A j) with
      | false=>rfl
      | true=>exact absurd ⟨by omega,e⟩ h
     by_cases e3:p=j
     ·subst e3; exact hlt
     ·exact H.trans _ _ _ (h1 p j hp (by omega) (by omega) e1 (by omega)) hlt
    ·exact h1 p q hp hpq (by omega) e1 e2
include H in
theorem insIn_ok {a i:Nat} {A:List E} (ha:a<=i) (hl:i<A.length) (hs:Sd lt a i A):Sd lt a (i+1) (Zb lt a i A):=
 insIn_sd H i A ha (Nat.le_refl _) hl (fun p q h1 h2 h3 h4 h5=>hs p q h1 h2 (by omega)) (fun q h1 h2=>by omega)
include H in
theorem insOut_ok {a b:Nat}:∀ (r i:Nat) (A:List E),a<=i->i+r=b->b<=A.length->Sd lt a i A->RP a b A (Vl lt a r i A)/\Sd lt a b (Vl lt a r i A)
 | 0,i,A,ha,hr,hl,hs=>⟨RP.refl _ _ _,by rw [<-hr]; exact hs⟩
 | r+1,i,A,ha,hr,hl,hs=>by
  have h1:=insIn_rp (lt:=lt) (a:=a) (b:=b) i A ha (by omega) hl
  have h2:=insOut_ok (b:=b) r (i+1) (Zb lt a i A) (by omega) (by omega) (by rw [h1.len]; exact hl) (insIn_ok H (i:=i) ha (show i<A.length by omega) hs)
  exact ⟨h1.trans h2.1,h2.2⟩
theorem insIn_low {a:Nat}:∀ (j:Nat) (A:List E),a<=j->j<A.length->(0<a->∀ p,a<=p->p<=j->lt (ge A p) (ge A (a-1))=false)->Zb lt 0 j A=Zb lt a j A
 | 0,A,ha,hl,h=>rfl
 | j+1,A,ha,hl,h=>by
  unfold Zb
  by_cases e:a=j+1
  ·subst e
   have:=h (by omega) (j+1) (Nat.le_refl _) (Nat.le_refl _)
   rw [show j+1-1=j by omega] at this
   rw [if_neg (by rw [this]; simp),if_neg (by omega)]
  ·by_cases e2:lt (ge A (j+1)) (ge A j)=true
   ·rw [if_pos ⟨by omega,e2⟩,if_pos ⟨by omega,e2⟩]
    refine insIn_low j _ (by omega) (by rw [Qy]; omega) fun h0 p h1 h2=>?_
    have g:=fun k=>Uf (A:=A) (i:=j+1) (j:=j) (by omega) (by omega) k
    rw [g,g,if_neg (show ¬ a-1=j by omega),if_neg (show ¬ a-1=j+1 by omega)]
    split
    ·exact h h0 (j+1) (by omega) (Nat.le_refl _)
    ·rw [if_neg (by omega)]; exact h h0 p h1 (by omega)
   ·rw [if_neg (fun hh=>e2 hh.2),if_neg (fun hh=>e2 hh.2)]
def Hp (lt:E->E->Bool) (f lo hi:Nat) (A:List E):Prop:=∀ i c,lo<=i->(c=2*i+1\/c=2*i+2)->c<hi->lt (ge A (f+i)) (ge A (f+c))=false
def sift (lt:E->E->Bool) (f hi:Nat):Nat->Nat->List E->List E
 | 0,_,A=>A
 | k+1,root,A=>
  if hi<=2*root+1 then A else
  let c:=if 2*root+2<hi/\lt (ge A (f+(2*root+1))) (ge A (f+(2*root+2)))=true then 2*root+2 else 2*root+1
  if lt (ge A (f+root)) (ge A (f+c))=true then sift lt f hi k c (swp A (f+root) (f+c)) else A
theorem sift_rp {f hi:Nat}:∀ (k root:Nat) (A:List E),root<hi->f+hi<=A.length->RP f (f+hi) A (sift lt f hi k root A)
 | 0,root,A,hr,hl=>RP.refl _ _ _
 | k+1,root,A,hr,hl=>by
  unfold sift
  split
  ·exact RP.refl _ _ _
  ·simp only
   generalize hc:(if 2*root+2<hi/\lt (ge A (f+(2*root+1))) (ge A (f+(2*root+2)))=true then 2*root+2 else 2*root+1)=c
   have hcl:c<hi:=by rw [<-hc]; split <;> omega
   split
   ·exact (RP.swap ⟨by omega,by omega⟩ ⟨by omega,by omega⟩ hl).trans (sift_rp k c _ hcl (by rw [Qy]; exact hl))
   ·exact RP.refl _ _ _
include H in
theorem sift_hp {f lo hi:Nat}:∀ (k root:Nat) (A:List E),hi-root<=k->lo<=root->root<hi->f+hi<=A.length->
  (∀ i c,lo<=i->i≠root->(c=2*i+1\/c=2*i+2)->c<hi->lt (ge A (f+i)) (ge A (f+c))=false)->
  (∀ p c,lo<=p->(root=2*p+1\/root=2*p+2)->(c=2*root+1\/c=2*root+2)->c<hi->lt (ge A (f+p)) (ge A (f+c))=false)->Hp lt f lo hi (sift lt f hi k root A)
 | 0,root,A,hk,hlo,hr,hl,h1,h2=>by omega
 | k+1,root,A,hk,hlo,hr,hl,h1,h2=>by
  unfold sift
  split
  ·rename_i h0
   intro i c hi1 hc hch
   by_cases e:i=root
   ·omega
   ·exact h1 i c hi1 e hc hch
  ·rename_i h0
   simp only
   have hcc:∃ c,(if 2*root+2<hi/\lt (ge A (f+(2*root+1))) (ge A (f+(2*root+2)))=true then 2*root+2 else 2*root+1)=c/\(c=2*root+1\/c=2*root+2)/\c<hi/\∀ c',(c'=2*root+1\/c'=2*root+2)->c' < hi->lt (ge A (f+c)) (ge A (f+c'))=false:=by
    split
    ·rename_i hh
     refine ⟨_,rfl,.inr rfl,by omega,fun c' hc' hl'=>?_⟩
     rcases hc' with rfl | rfl
     ·exact H.asym _ _ hh.2
     ·exact H.irr _
    ·rename_i hh
     refine ⟨_,rfl,.inl rfl,by omega,fun c' hc' hl'=>?_⟩
     rcases hc' with rfl | rfl
     ·exact H.irr _
     ·cases e:lt (ge A (f+(2*root+1))) (ge A (f+(2*root+2))) with
      | false=>rfl
      | true=>exact absurd ⟨hl',e⟩ hh
   obtain ⟨c,hc,hc1,hc2,hc3⟩:=hcc
   rw [hc]
   have g:=fun j=>Uf (A:=A) (i:=f+root) (j:=f+c) (by omega) (by omega) j
   split
   ·rename_i hlt
    refine sift_hp k c _ (by omega) (by omega) hc2 (by rw [Qy]; exact hl) (fun i c' hi1 hne hcc' hl'=>?_) (fun p c' hp1 hpc hcc' hl'=>?_)
    ·rw [g,g]
     by_cases e1:i=root
     ·subst e1
      rw [if_neg (by omega),if_pos rfl]
      by_cases e2:c'=c
      ·subst e2; rw [if_pos rfl]; exact H.asym _ _ hlt
      ·rw [if_neg (by omega),if_neg (by omega)]
       exact hc3 c' hcc' hl'
     ·rw [if_neg (by omega),if_neg (by omega)]
      by_cases e2:c'=c
      ·omega
      ·rw [if_neg (by omega)]
       by_cases e3:c'=root
       ·subst e3
        rw [if_pos rfl]
        exact h2 i c hi1 hcc' hc1 hc2
       ·rw [if_neg (by omega)]
        exact h1 i c' hi1 e1 hcc' hl'
    ·have hpr:p=root:=by omega
     subst hpr
     rw [g,g,if_neg (by omega),if_pos rfl,if_neg (by omega),if_neg (by omega)]
     exact h1 c c' (by omega) (by omega) hcc' hl'
   ·rename_i hlt
    intro i c' hi1 hcc' hl'
    by_cases e:i=root
    ·subst e
     have hf:lt (ge A (f+i)) (ge A (f+c))=false:=by
      cases e:lt (ge A (f+i)) (ge A (f+c)) with
      | false=>rfl
      | true=>exact absurd e hlt
     exact H.trans _ _ _ (hc3 c' hcc' hl') hf |> fun h=>by
      exact H.trans (ge A (f+c')) (ge A (f+c)) (ge A (f+i)) (hc3 c' hcc' hl') hf
    ·exact h1 i c' hi1 e hcc' hl'
include H in
theorem Hp.top {f hi:Nat} {A:List E} (h:Hp lt f 0 hi A):∀ (i:Nat),i<hi->lt (ge A f) (ge A (f+i))=false:=by
 intro i
 induction i using Nat.strongRecOn with
 | _ i ih=>
  intro hi1
  by_cases e:i=0
  ·subst e; exact H.irr _
  ·have h1:=ih ((i-1) / 2) (by omega) (by omega)
   have h2:=h ((i-1) / 2) i (Nat.zero_le _) (by omega) hi1
   exact H.trans _ _ _ h2 h1
def hpA (lt:E->E->Bool) (f n:Nat):Nat->List E->List E
 | 0,A=>sift lt f n n 0 A
 | i+1,A=>hpA lt f n i (sift lt f n n (i+1) A)
def hpB (lt:E->E->Bool) (f:Nat):Nat->List E->List E
 | 0,A=>A
 | i+1,A=>hpB lt f i (sift lt f i i 0 (swp A f (f+i)))
include H in
theorem hpA_ok {f n:Nat}:∀ (i:Nat) (A:List E),i<n->f+n<=A.length->Hp lt f (i+1) n A->RP f (f+n) A (hpA lt f n i A)/\Hp lt f 0 n (hpA lt f n i A)
 | 0,A,hi,hl,h=>⟨sift_rp n 0 A hi hl,sift_hp H n 0 A (by omega) (Nat.le_refl _) hi hl (fun i c h1 h2 h3 h4=>h i c (by omega) h3 h4) (fun p c h1 h2 h3 h4=>by omega)⟩
 | i+1,A,hi,hl,h=>by
  have h1:=sift_rp (lt:=lt) n (i+1) A hi hl
  have h2:=sift_hp H (lo:=i+1) n (i+1) A (by omega) (Nat.le_refl _) hi hl (fun j c g1 g2 g3 g4=>h j c (by omega) g3 g4) (fun p c g1 g2 g3 g4=>by omega)
  have h3:=hpA_ok i _ (by omega) (by rw [h1.len]; exact hl) h2
  exact ⟨h1.trans h3.1,h3.2⟩
include H in
theorem hpB_ok {f n:Nat}:∀ (i:Nat) (A:List E),i<=n->f+n<=A.length->Hp lt f 0 i A->Sd lt (f+i) (f+n) A->(∀ p q,f<=p->p<f+i->f+i<=q->q<f+n->lt (ge A q) (ge A p)=false)->
  RP f (f+n) A (hpB lt f i A)/\Sd lt f (f+n) (hpB lt f i A)
 | 0,A,hi,hl,hh,hs,hle=>⟨RP.refl _ _ _,hs⟩
 | i+1,A,hi,hl,hh,hs,hle=>by
  have r1:RP f (f+(i+1)) A (swp A f (f+i)):=RP.swap ⟨by omega,by omega⟩ ⟨by omega,by omega⟩ (by omega)
  have g:=fun j=>Uf (A:=A) (i:=f) (j:=f+i) (by omega) (by omega) j
  by_cases h0:i=0
  ·subst h0
   have r2:sift lt f 0 0 0 (swp A f (f+0))=swp A f (f+0):=rfl
   have e1:∀ j,ge (swp A f (f+0)) j=ge A j:=by
    intro j
    rw [g]
    by_cases e:j=f
    ·subst e; simp
    ·rw [if_neg (by omega),if_neg e]
   refine ⟨(r1.mono (Nat.le_refl _) (by omega)),fun p q h1 h2 h3=>?_⟩
   show lt (ge (swp A f (f+0)) q) (ge (swp A f (f+0)) p)=false
   rw [e1,e1]
   by_cases e:p=f
   ·subst e; exact hle p q h1 (by omega) (by omega) h3
   ·exact hs p q (by omega) h2 h3
  ·have r2:=sift_rp (lt:=lt) (f:=f) (hi:=i) i 0 (swp A f (f+i)) (by omega) (by rw [Qy]; omega)
   have hnode:∀ j c,0<=j->j≠0->(c=2*j+1\/c=2*j+2)->c<i->lt (ge (swp A f (f+i)) (f+j)) (ge (swp A f (f+i)) (f+c))=false:=by
    intro j c _ hj hc hci
    rw [g,g,if_neg (by omega),if_neg (by omega),if_neg (by omega),if_neg (by omega)]
    exact hh j c (Nat.zero_le _) hc (by omega)
   have h2:=sift_hp H (f:=f) (lo:=0) (hi:=i) i 0 (swp A f (f+i)) (by omega) (Nat.le_refl _) (by omega) (by rw [Qy]; omega) hnode (fun p c g1 g2=>by omega)
   have hmax:=hh.top H
   have hout:∀ q,f+i<=q->ge (sift lt f i i 0 (swp A f (f+i))) q=ge (swp A f (f+i)) q:=fun q hq=>r2.out q (by omega)
   have hs2:Sd lt (f+i) (f+n) (sift lt f i i 0 (swp A f (f+i))):=by
    intro p q h3 h4 h5
    rw [hout p h3,hout q (by omega),g,g,if_neg (show ¬ q=f+i by omega),if_neg (show ¬ q=f by omega)]
    by_cases e:p=f+i
    ·rw [if_pos e]; exact hle f q (Nat.le_refl _) (by omega) (by omega) h5
    ·rw [if_neg e,if_neg (by omega)]; exact hs p q (by omega) h4 h5
   have hle2:∀ p q,f<=p->p<f+i->f+i<=q->q<f+n->lt (ge (sift lt f i i 0 (swp A f (f+i))) q) (ge (sift lt f i i 0 (swp A f (f+i))) p)=false:=by
    intro p q h3 h4 h5 h6
    rw [hout q h5]
    refine r2.all (fun x=>lt (ge (swp A f (f+i)) q) x=false) (fun k g1 g2=>?_) p h3 h4
    rw [g,g]
    by_cases e:q=f+i
    ·rw [if_pos e,if_neg (show ¬ k=f+i by omega)]
     split
     ·have:=hmax i (by omega); exact this
     ·have:=hmax (k-f) (by omega)
      rwa [show f+(k-f)=k by omega] at this
    ·rw [if_neg e,if_neg (show ¬ q=f by omega),if_neg (show ¬ k=f+i by omega)]
     split
     ·exact hle (f+i) q (by omega) (by omega) (by omega) h6
     ·exact hle k q g1 (by omega) (by omega) h6
   have h3:=hpB_ok i _ (by omega) (by rw [r2.len,Qy]; exact hl) h2 hs2 hle2
   exact ⟨((r1.mono (Nat.le_refl _) (by omega)).trans (r2.mono (Nat.le_refl _) (by omega))).trans h3.1,h3.2⟩
def upI (q:E->Bool) (A:List E):Nat->Nat->Nat->Nat
 | 0,i,_=>i
 | k+1,i,j=>if i<=j/\q (ge A i)=true then upI q A k (i+1) j else i
def dnJ (q:E->Bool) (A:List E):Nat->Nat->Nat->Nat
 | 0,_,j=>j
 | k+1,i,j=>if i<=j/\q (ge A j)=true then dnJ q A k i (j-1) else j
theorem Uz {q:E->Bool} {A:List E}:∀ (k i j:Nat),j+1-i<=k->i<=j+1->i<=upI q A k i j/\upI q A k i j<=j+1/\(∀ p,i<=p->p<upI q A k i j->q (ge A p)=true)/\(upI q A k i j<=j->q (ge A (upI q A k i j))=false)
 | 0,i,j,hk,hi=>⟨Nat.le_refl _,hi,fun p h1 h2=>by simp only [upI] at h2; omega,fun h=>by simp only [upI] at h; omega⟩
 | k+1,i,j,hk,hi=>by
  unfold upI
  split
  ·rename_i h
   obtain ⟨a1,a2,a3,a4⟩:=Uz (q:=q) (A:=A) k (i+1) j (by omega) (by omega)
   refine ⟨by omega,a2,fun p h1 h2=>?_,a4⟩
   by_cases e:p=i
   ·subst e; exact h.2
   ·exact a3 p (by omega) h2
  ·rename_i h
   refine ⟨Nat.le_refl _,hi,fun p h1 h2=>by omega,fun hij=>?_⟩
   cases e:q (ge A i) with
   | false=>rfl
   | true=>exact absurd ⟨hij,e⟩ h
theorem UE {q:E->Bool} {A:List E}:∀ (k i j:Nat),j+1-i<=k->i<=j+1->1<=i->dnJ q A k i j<=j/\i<=dnJ q A k i j+1/\(∀ p,dnJ q A k i j<p->p<=j->q (ge A p)=true)/\(i<=dnJ q A k i j->q (ge A (dnJ q A k i j))=false)
 | 0,i,j,hk,hi,h1=>⟨Nat.le_refl _,hi,fun p g1 g2=>by simp only [dnJ] at g1; omega,fun h=>by simp only [dnJ] at h; omega⟩
 | k+1,i,j,hk,hi,h1=>by
  unfold dnJ
  split
  ·rename_i h
   obtain ⟨a1,a2,a3,a4⟩:=UE (q:=q) (A:=A) k i (j-1) (by omega) (by omega) h1
   refine ⟨by omega,a2,fun p g1 g2=>?_,a4⟩
   by_cases e:p=j
   ·subst e; exact h.2
   ·exact a3 p g1 (by omega)
  ·rename_i h
   refine ⟨Nat.le_refl _,hi,fun p g1 g2=>by omega,fun hij=>?_⟩
   cases e:q (ge A j) with
   | false=>rfl
   | true=>exact absurd ⟨hij,e⟩ h
def prt (u v:E->E->Bool) (a:Nat):Nat->Nat->Nat->List E->Nat×Nat×List E
 | 0,i,j,A=>(i,j,A)
 | k+1,i,j,A=>
  let i':=upI (u (ge A a)) A (j+1-i) i j
  let j':=dnJ (v (ge A a)) A (j+1-i') i' j
  if j' < i' then (i',j',A) else prt u v a k (i'+1) (j' - 1) (swp A i' j')
theorem prt_ok {u v:E->E->Bool} (huv:∀ x y,v x y = !u x y) {a b:Nat}:∀ (k i j:Nat) (A:List E),j+1-i<k->a+1<=i->i<=j+1->j<b->b<=A.length->
  (∀ p,a<p->p<i->u (ge A a) (ge A p)=true)->(∀ p,j<p->p<b->u (ge A a) (ge A p)=false)->
  RP (a+1) b A (prt u v a k i j A).2.2/\(prt u v a k i j A).1=(prt u v a k i j A).2.1+1/\a<=(prt u v a k i j A).2.1/\(prt u v a k i j A).2.1<b/\
   (∀ p,a<p->p<=(prt u v a k i j A).2.1->u (ge A a) (ge (prt u v a k i j A).2.2 p)=true)/\(∀ p,(prt u v a k i j A).2.1<p->p<b->u (ge A a) (ge (prt u v a k i j A).2.2 p)=false)
 | 0,i,j,A,hk,hi,hij,hj,hb,h1,h2=>by omega
 | k+1,i,j,A,hk,hi,hij,hj,hb,h1,h2=>by
  obtain ⟨a1,a2,a3,a4⟩:=Uz (q:=u (ge A a)) (A:=A) (j+1-i) i j (Nat.le_refl _) hij
  obtain ⟨b1,b2,b3,b4⟩:=UE (q:=v (ge A a)) (A:=A) (j+1-upI (u (ge A a)) A (j+1-i) i j) (upI (u (ge A a)) A (j+1-i) i j) j (Nat.le_refl _) a2 (by omega)
  unfold prt
  simp only
  generalize hI:upI (u (ge A a)) A (j+1-i) i j=i' at *
  generalize hJ:dnJ (v (ge A a)) A (j+1-i') i' j=j' at *
  have f1:∀ p,a<p->p<i'->u (ge A a) (ge A p)=true:=fun p g1 g2=>by
   by_cases e:p<i
   ·exact h1 p g1 e
   ·exact a3 p (by omega) g2
  have f2:∀ p,j' < p->p<b->u (ge A a) (ge A p)=false:=fun p g1 g2=>by
   by_cases e:p<=j
   ·have:=b3 p g1 e; rw [huv] at this; simpa using this
   ·exact h2 p (by omega) g2
  split
  ·rename_i hlt
   have:i'=j'+1:=by omega
   show RP (a+1) b A A/\i'=j'+1/\a<=j'/\j' < b/\(∀ p,a<p->p<=j'->u (ge A a) (ge A p)=true)/\(∀ p,j' < p->p<b->u (ge A a) (ge A p)=false)
   exact ⟨RP.refl _ _ _,this,by omega,by omega,fun p g1 g2=>f1 p g1 (by omega),f2⟩
  ·rename_i hlt
   have c1:=a4 (by omega)
   have c2:=b4 (by omega)
   rw [huv] at c2
   have hne:i'≠j':=by
    rintro rfl
    rw [c1] at c2; exact absurd c2 (by decide)
   have g:=fun m=>Uf (A:=A) (i:=i') (j:=j') (by omega) (by omega) m
   have gA:ge (swp A i' j') a=ge A a:=by rw [g,if_neg (by omega),if_neg (by omega)]
   have r:=prt_ok huv (a:=a) (b:=b) k (i'+1) (j' - 1) (swp A i' j') (by omega) (by omega) (by omega) (by omega) (by rw [Qy]; exact hb) (fun p g1 g2=>by
    rw [gA,g]
    by_cases e:p=i'
    ·rw [if_neg (by omega),if_pos e]; simpa using c2
    ·rw [if_neg (by omega),if_neg e]; exact f1 p g1 (by omega)) (fun p g1 g2=>by
    rw [gA,g]
    by_cases e:p=j'
    ·rw [if_pos e]; exact c1
    ·rw [if_neg e,if_neg (by omega)]; exact f2 p (by omega) g2)
   rw [gA] at r
   exact ⟨(RP.swap ⟨by omega,by omega⟩ ⟨by omega,by omega⟩ hb).trans r.1,r.2⟩
def Wf (lt:E->E->Bool) (A:List E) (b:Nat):Nat->Nat->Nat
 | 0,i=>i
 | k+1,i=>if i<b/\lt (ge A i) (ge A (i-1))=false then Wf lt A b k (i+1) else i
def WV (lt:E->E->Bool):Nat->Nat->List E->List E
 | 0,_,A=>A
 | r+1,j,A=>if lt (ge A j) (ge A (j-1))=true then WV lt r (j+1) (swp A j (j-1)) else A
def pins (lt:E->E->Bool) (a b:Nat):Nat->Nat->List E->Bool×List E
 | 0,_,A=>(false,A)
 | s+1,i,A=>
  let i':=Wf lt A b (b-i) i
  if i'=b then (true,A) else if b-a<50 then (false,A) else
  let A1:=swp A i' (i' - 1)
  let A2:=if 2<=i' - a then Zb lt 0 (i' - 1) A1 else A1
  let A3:=if 2<=b-i' then WV lt (b-(i'+1)) (i'+1) A2 else A2
  pins lt a b s i' A3
include H in
theorem scanI_ok {A:List E} {a b:Nat}:∀ (k i:Nat),b-i<=k->a+1<=i->i<=b->Sd lt a i A->i<=Wf lt A b k i/\Wf lt A b k i<=b/\Sd lt a (Wf lt A b k i) A/\(Wf lt A b k i<b->lt (ge A (Wf lt A b k i)) (ge A (Wf lt A b k i-1))=true)
 | 0,i,hk,ha,hb,hs=>⟨Nat.le_refl _,hb,hs,fun h=>by simp only [Wf] at h; omega⟩
 | k+1,i,hk,ha,hb,hs=>by
  unfold Wf
  split
  ·rename_i h
   have hs2:Sd lt a (i+1) A:=by
    intro p q h1 h2 h3
    by_cases e:q=i
    ·subst e
     by_cases e2:p=q-1
     ·rw [e2]; exact h.2
     ·exact H.trans _ _ _ (hs p (q-1) h1 (by omega) (by omega)) h.2
    ·exact hs p q h1 h2 (by omega)
   obtain ⟨a1,a2⟩:=scanI_ok (a:=a) (b:=b) k (i+1) (by omega) (by omega) (by omega) hs2
   exact ⟨by omega,a2⟩
  ·rename_i h
   refine ⟨Nat.le_refl _,hb,hs,fun hib=>?_⟩
   cases e:lt (ge A i) (ge A (i-1)) with
   | true=>rfl
   | false=>exact absurd ⟨hib,e⟩ h
theorem insUp_rp {i b:Nat}:∀ (r j:Nat) (A:List E),i<j->j+r<=b->b<=A.length->RP i b A (WV lt r j A)
 | 0,j,A,hi,hr,hl=>RP.refl _ _ _
 | r+1,j,A,hi,hr,hl=>by
  unfold WV
  split
  ·exact (RP.swap ⟨by omega,by omega⟩ ⟨by omega,by omega⟩ hl).trans (insUp_rp r (j+1) _ (by omega) (by omega) (by rw [Qy]; exact hl))
  ·exact RP.refl _ _ _
include H in
theorem pins_ok {a b:Nat}:∀ (s i:Nat) (A:List E),a+1<=i->i<=b->b<=A.length->(0<a->∀ p,a<=p->p<b->lt (ge A p) (ge A (a-1))=false)->Sd lt a i A->
  RP a b A (pins lt a b s i A).2/\((pins lt a b s i A).1=true->Sd lt a b (pins lt a b s i A).2)
 | 0,i,A,ha,hb,hl,hlow,hs=>⟨RP.refl _ _ _,fun h=>by simp [pins] at h⟩
 | s+1,i,A,ha,hb,hl,hlow,hs=>by
  obtain ⟨a1,a2,a3,a4⟩:=scanI_ok H (b-i) i (Nat.le_refl _) ha hb hs
  unfold pins
  simp only
  generalize hI:Wf lt A b (b-i) i=i' at *
  split
  ·rename_i e
   exact ⟨RP.refl _ _ _,fun _=>by rw [<-e]; exact a3⟩
  ·split
   ·exact ⟨RP.refl _ _ _,fun h=>absurd h (by simp)⟩
   ·rename_i e1 e2
    have r1:RP a b A (swp A i' (i' - 1)):=RP.swap ⟨by omega,by omega⟩ ⟨by omega,by omega⟩ hl
    have g:=fun m=>Uf (A:=A) (i:=i') (j:=i' - 1) (by omega) (by omega) m
    have hlow1:0<a->∀ p,a<=p->p<b->lt (ge (swp A i' (i' - 1)) p) (ge (swp A i' (i' - 1)) (a-1))=false:=fun h0 p h1 h2=>by
     rw [r1.out (a-1) (by omega)]
     exact r1.all (fun x=>lt x (ge A (a-1))=false) (fun k g1 g2=>hlow h0 k g1 g2) p h1 h2
    have hs1:Sd lt a (i' - 1) (swp A i' (i' - 1)):=fun p q h1 h2 h3=>by
     rw [g,g,if_neg (by omega),if_neg (by omega),if_neg (by omega),if_neg (by omega)]
     exact a3 p q h1 h2 (by omega)
    have h2:RP a b A (if 2<=i' - a then Zb lt 0 (i' - 1) (swp A i' (i' - 1)) else swp A i' (i' - 1))/\Sd lt a i' (if 2<=i' - a then Zb lt 0 (i' - 1) (swp A i' (i' - 1)) else swp A i' (i' - 1)):=by
     split
     ·rw [insIn_low (a:=a) (i' - 1) (swp A i' (i' - 1)) (by omega) (by rw [Qy]; omega) fun h0 p h1 h2=>hlow1 h0 p h1 (by omega)]
      refine ⟨r1.trans (insIn_rp (b:=b) (i' - 1) (swp A i' (i' - 1)) (by omega) (by omega) (by rw [Qy]; exact hl)),?_⟩
      have:=insIn_ok H (a:=a) (i:=i' - 1) (A:=swp A i' (i' - 1)) (by omega) (by rw [Qy]; omega) hs1
      rwa [show i' - 1+1=i' by omega] at this
     ·exact ⟨r1,fun p q h1 h2 h3=>by omega⟩
    generalize (if 2<=i' - a then Zb lt 0 (i' - 1) (swp A i' (i' - 1)) else swp A i' (i' - 1))=A2 at *
    have h3:RP i' b A2 (if 2<=b-i' then WV lt (b-(i'+1)) (i'+1) A2 else A2):=by
     split
     ·exact insUp_rp _ _ _ (by omega) (by omega) (by rw [h2.1.len]; exact hl)
     ·exact RP.refl _ _ _
    generalize (if 2<=b-i' then WV lt (b-(i'+1)) (i'+1) A2 else A2)=A3 at *
    have h4:RP a b A A3:=h2.1.trans (h3.mono (by omega) (Nat.le_refl _))
    have h5:=pins_ok (a:=a) (b:=b) s i' A3 (by omega) (by omega) (by rw [h4.len]; exact hl) (fun h0 p g1 g2=>by
     rw [h4.out (a-1) (by omega)]
     exact h4.all (fun x=>lt x (ge A (a-1))=false) (fun k g1 g2=>hlow h0 k g1 g2) p g1 g2) (fun p q g1 g2 g3=>by
     rw [h3.out p (by omega),h3.out q (by omega)]
     exact h2.2 p q g1 g2 g3)
    exact ⟨h4.trans h5.1,h5.2⟩
def Mid (lt:E->E->Bool) (a b m:Nat) (A:List E):Prop:=(∀ p,a<=p->p<m->lt (ge A m) (ge A p)=false)/\(∀ p,m<p->p<b->lt (ge A p) (ge A m)=false)
include H in
theorem prt_mid {a b:Nat} {A:List E} (hab:a<b) (hb:b<=A.length):let r:=prt (fun pv x=>lt x pv) (fun pv x=>!lt x pv) a (b-a+1) (a+1) (b-1) A
  a<=r.2.1/\r.2.1<b/\RP a b A (swp r.2.2 r.2.1 a)/\Mid lt a b r.2.1 (swp r.2.2 r.2.1 a):=by
 intro r
 obtain ⟨h1,h2,h3,h4,h5,h6⟩:=prt_ok (u:=fun pv x=>lt x pv) (v:=fun pv x=>!lt x pv) (fun _ _=>rfl) (a:=a) (b:=b) (b-a+1) (a+1) (b-1) A (by omega) (by omega) (by omega) (by omega) hb (fun p g1 g2=>by omega) (fun p g1 g2=>by omega)
 have hr:r=prt (fun pv x=>lt x pv) (fun pv x=>!lt x pv) a (b-a+1) (a+1) (b-1) A:=rfl
 rw [<-hr] at h1 h2 h3 h4 h5 h6
 clear_value r
 have hl:=h1.len
 have g:=fun m=>Uf (A:=r.2.2) (i:=r.2.1) (j:=a) (by omega) (by omega) m
 have hpa:ge r.2.2 a=ge A a:=h1.out a (by omega)
 refine ⟨h3,h4,(h1.mono (by omega) (Nat.le_refl _)).trans (RP.swap ⟨h3,h4⟩ ⟨by omega,by omega⟩ (by omega)),?_,?_⟩
 ·intro p g1 g2
  have gm:ge (swp r.2.2 r.2.1 a) r.2.1=ge A a:=by
   rw [g]
   by_cases e:r.2.1=a
   ·rw [if_pos e,e]; exact hpa
   ·rw [if_neg e,if_pos rfl]; exact hpa
  rw [gm,g]
  by_cases e:p=a
  ·rw [if_pos e]
   exact H.asym _ _ (h5 r.2.1 (by omega) (Nat.le_refl _))
  ·rw [if_neg e,if_neg (by omega)]
   exact H.asym _ _ (h5 p (by omega) (by omega))
 ·intro p g1 g2
  have gm:ge (swp r.2.2 r.2.1 a) r.2.1=ge A a:=by
   rw [g]
   by_cases e:r.2.1=a
   ·rw [if_pos e,e]; exact hpa
   ·rw [if_neg e,if_pos rfl]; exact hpa
  rw [gm,g,if_neg (by omega),if_neg (by omega)]
  exact h6 p g1 g2
include H in
theorem glue {a b m:Nat} {A B:List E} (hm:a<=m/\m<b) (hM:Mid lt a b m A) (h1:RP a m A B) (h2:Sd lt a m B) {C:List E} (h3:RP (m+1) b B C) (h4:Sd lt (m+1) b C):RP a b A C/\Sd lt a b C:=by
 refine ⟨(h1.mono (Nat.le_refl _) (by omega)).trans (h3.mono (by omega) (Nat.le_refl _)),fun p q g1 g2 g3=>?_⟩
 have eB:ge B m=ge A m:=h1.out m (by omega)
 have eC:ge C m=ge A m:=(h3.out m (by omega)).trans eB
 have low:∀ p,a<=p->p<m->lt (ge A m) (ge C p)=false:=fun p k1 k2=>by
  rw [h3.out p (by omega)]
  exact h1.all (fun x=>lt (ge A m) x=false) (fun k j1 j2=>hM.1 k j1 j2) p k1 k2
 have high:∀ q,m<q->q<b->lt (ge C q) (ge A m)=false:=fun q k1 k2=>
  h3.all (fun x=>lt x (ge A m)=false) (fun k j1 j2=>by rw [h1.out k (by omega)]; exact hM.2 k (by omega) j2) q (by omega) k2
 by_cases e1:q<m
 ·rw [h3.out p (by omega),h3.out q (by omega)]; exact h2 p q g1 g2 e1
 ·by_cases e2:q=m
  ·subst e2; rw [eC]; exact low p g1 g2
  ·by_cases e3:p<m
   ·exact H.trans _ _ _ (low p g1 e3) (high q (by omega) g3)
   ·by_cases e4:p=m
    ·subst e4; rw [eC]; exact high q g2 g3
    ·exact h4 p q (by omega) g2 g3
include H in
theorem glue' {a b m:Nat} {A B:List E} (hm:a<=m/\m<b) (hM:Mid lt a b m A) (h1:RP (m+1) b A B) (h2:Sd lt (m+1) b B) {C:List E} (h3:RP a m B C) (h4:Sd lt a m C):RP a b A C/\Sd lt a b C:=by
 refine ⟨(h1.mono (by omega) (Nat.le_refl _)).trans (h3.mono (Nat.le_refl _) (by omega)),fun p q g1 g2 g3=>?_⟩
 have eB:ge B m=ge A m:=h1.out m (by omega)
 have eC:ge C m=ge A m:=(h3.out m (by omega)).trans eB
 have low:∀ p,a<=p->p<m->lt (ge A m) (ge C p)=false:=fun p k1 k2=>
  h3.all (fun x=>lt (ge A m) x=false) (fun k j1 j2=>by rw [h1.out k (by omega)]; exact hM.1 k j1 j2) p k1 k2
 have high:∀ q,m<q->q<b->lt (ge C q) (ge A m)=false:=fun q k1 k2=>by
  rw [h3.out q (by omega)]
  exact h1.all (fun x=>lt x (ge A m)=false) (fun k j1 j2=>hM.2 k (by omega) j2) q (by omega) k2
 by_cases e1:q<m
 ·exact h4 p q g1 g2 e1
 ·by_cases e2:q=m
  ·subst e2; rw [eC]; exact low p g1 g2
  ·by_cases e3:p<m
   ·exact H.trans _ _ _ (low p g1 e3) (high q (by omega) g3)
   ·by_cases e4:p=m
    ·subst e4; rw [eC]; exact high q g2 g3
    ·rw [h3.out p (by omega),h3.out q (by omega)]; exact h2 p q (by omega) g2 g3
include H in
theorem prtE_ok {a b:Nat} {A:List E} (hab:a<b) (hb:b<=A.length) (hlow:∀ p,a<=p->p<b->lt (ge A p) (ge A (a-1))=false) (h0:0<a) (hpv:lt (ge A (a-1)) (ge A a)=false):let r:=prt (fun pv x=>!lt pv x) (fun pv x=>lt pv x) a (b-a+1) (a+1) (b-1) A
  a<r.1/\r.1<=b/\RP a b A r.2.2/\(∀ p,r.1<=p->p<b->lt (ge r.2.2 p) (ge r.2.2 (r.1-1))=false)/\∀ C,RP r.1 b r.2.2 C->Sd lt r.1 b C->Sd lt a b C:=by
 intro r
 obtain ⟨h1,h2,h3,h4,h5,h6⟩:=prt_ok (u:=fun pv x=>!lt pv x) (v:=fun pv x=>lt pv x) (fun _ _=>by simp) (a:=a) (b:=b) (b-a+1) (a+1) (b-1) A (by omega) (by omega) (by omega) (by omega) hb (fun p g1 g2=>by omega) (fun p g1 g2=>by omega)
 have hr:r=prt (fun pv x=>!lt pv x) (fun pv x=>lt pv x) a (b-a+1) (a+1) (b-1) A:=rfl
 rw [<-hr] at h1 h2 h3 h4 h5 h6
 clear_value r
 have hpa:ge r.2.2 a=ge A a:=h1.out a (by omega)
 have r0:RP a b A r.2.2:=h1.mono (by omega) (Nat.le_refl _)
 have up:∀ p,a<=p->p<r.1->lt (ge A a) (ge r.2.2 p)=false:=fun p g1 g2=>by
  by_cases e:p=a
  ·rw [e,hpa]; exact H.irr _
  ·have:=h5 p (by omega) (by omega)
   simpa using this
 have dn:∀ p,a<=p->p<b->lt (ge r.2.2 p) (ge A (a-1))=false:=fun p g1 g2=>r0.all (fun x=>lt x (ge A (a-1))=false) hlow p g1 g2
 have ab:∀ p,r.1<=p->p<b->lt (ge A a) (ge r.2.2 p)=true:=fun p g1 g2=>by
  have:=h6 p (by omega) g2
  simpa using this
 refine ⟨by omega,by omega,r0,fun p g1 g2=>?_,fun C hC hS p q g1 g2 g3=>?_⟩
 ·exact H.trans _ _ _ (up (r.1-1) (by omega) (by omega)) (H.asym _ _ (ab p g1 g2))
 ·have abC:∀ p,r.1<=p->p<b->lt (ge A a) (ge C p)=true:=fun p k1 k2=>hC.all (fun x=>lt (ge A a) x=true) ab p k1 k2
  by_cases e1:q<r.1
  ·rw [hC.out p (by omega),hC.out q (by omega)]
   exact H.trans _ _ _ (H.trans _ _ _ (up p g1 (by omega)) hpv) (dn q (by omega) (by omega))
  ·by_cases e2:p<r.1
   ·rw [hC.out p (by omega)]
    exact H.trans _ _ _ (up p g1 e2) (H.asym _ _ (abC q (by omega) g3))
   ·exact hS p q (by omega) g2 g3
end
end Go.D.Srt
end
/- Lists side by side: turned from the texts of chapter 21. -/
section
set_option linter.unusedVariables false
set_option linter.unusedSimpArgs false
namespace Go.D
theorem Qq (call:Za) (lo:Nat) (f:FuncId) (caps args:List DV) (σ:Qa):Qd call lo (.fn f caps) args σ=call lo f (args++caps) σ:=Eq.trans rfl rfl
def UX:DV->Option Nat
 | .osl r _ _ _ _=>some r
 | _=>none
def Apart (x y:DV):Prop:=∀ r,UX x=some r->UX y=some r->False
def Fresh (σ:Qa) (x x':DV):Prop:=∀ r,UX x'=some r->UX x=some r\/r=σ.length
theorem Apart.symm {x y:DV} (h:Apart x y):Apart y x:=fun r a b=>h r b a
theorem Apart.nil (y:DV):Apart (.p .nilsl) y:=fun r a _=>by simp [UX] at a
theorem Out.row_lt {σ:Qa} {lo sz n:Nat} {cs:List PV} {x:DV} (ho:Out σ lo sz n cs x) {r:Nat} (h:UX x=some r):r<σ.length:=by
 rcases ho.2 with ⟨_,rfl⟩ | ⟨_,r',ver,rfl,h3,_⟩
 ·simp [UX] at h
 ·have:r'=r:=by simpa [UX] using h
  rw [<-this]; exact QT h3
theorem Apart.fresh {σ:Qa} {lo sz n:Nat} {cs:List PV} {x x' y:DV} (h:Apart x y) (hf:Fresh σ x x') (hy:Out σ lo sz n cs y):Apart x' y:=by
 intro r a b
 rcases hf r a with h1 | h1
 ·exact h r h1 b
 ·have:=hy.row_lt b
  omega
theorem Out.other {σ σ':Qa} {lo sz n:Nat} {cs:List PV} {x y:DV} (ho:Out σ lo sz n cs y) (h:Others σ σ' x) (ha:Apart x y):Out σ' lo sz n cs y:=by
 refine ⟨ho.1,?_⟩
 rcases ho.2 with h1 | ⟨h1,r,ver,rfl,h3,h4⟩
 ·exact .inl h1
 ·refine .inr ⟨h1,r,ver,rfl,h r _ h3 ?_,h4⟩
  rintro r' ver' sz' n' cs' rfl e
  exact ha r (by rw [e]; rfl) rfl
theorem Out.pushF {σ:Qa} {t e lo sz b n:Nat} {z:List DV} {cs vs:List PV} {x:DV} (hs:ZQ PP t=true) (hu:PP.underlying t=some (.slice e)) (h1:size? PP e=some sz) (h2:bytes? PP e=some b) (h3:Qx PP e=some z)
  (h4:z.length=sz) (hz:0<sz) (hb:0<b) (hb2:b<=1000) (hv:vs.length=sz) (ho:Out σ lo sz n cs x) (hn:n<=10000000) (hlo:lo<=σ.length) :
  ∃ x' σ',append PP lo false t t x (.p (.sl true 1 vs)) σ=some (x',σ')/\Out σ' lo sz (n+1) (cs++vs) x'/\Others σ σ' x/\Fresh σ x x':=by
 have hsrc:ZE σ sz (.p (.sl true 1 vs))=some (1,vs.map DV.p):=by simp [ZE,hv]
 have hz0:¬ (z.length≠sz\/sz=0):=by omega
 obtain ⟨hc,ho⟩:=ho
 rcases ho with ⟨rfl,rfl⟩ | ⟨hn0,r,ver,rfl,hr,hl⟩
 ·refine ⟨.osl σ.length 0 sz 1 vs,σ++[.tok 0],?_,⟨by simp [hc,hv],.inr ⟨by simp,σ.length,0,?_,QB,hlo⟩⟩,?_,?_⟩
  ·have:b<=140737488355328:=by omega
   simp only [append,hs,hu,h1,h2,h3,hz0,hsrc,Um]
   simp [this,hb,ZN,h4,hz,Nat.ne_of_gt hz]
  ·have:cs=[]:=List.length_eq_zero_iff.1 (by simpa using hc)
   rw [this]; simp
  ·intro i row hi _
   exact QM hi
  ·intro r h; right; simpa [UX] using h.symm
 ·refine ⟨.osl r (ver+1) sz (n+1) (cs++vs),σ.set r (.tok (ver+1)),?_,⟨by simp [hc,hv,Nat.add_mul],.inr ⟨by simp,r,ver+1,rfl,?_,hl⟩⟩,?_,?_⟩
  ·have e1:(n+1)*b<=140737488355328:=Nat.le_trans (Nat.mul_le_mul (show n+1<=10000001 by omega) hb2) (by decide)
   have e2:n+1<=140737488355328:=by omega
   simp only [append,hs,hu,h1,h2,h3,hz0,hsrc,Ux]
   simp [e1,e2,hb,hc,hl,hr,ZN,h4,Nat.ne_of_gt hz]
  ·rw [List.getElem?_set_self (QT hr)]
  ·intro i row hi hne
   rw [List.getElem?_set_ne (fun e=>hne _ _ _ _ _ rfl e.symm)]
   exact hi
  ·intro r' h; left; exact h
end Go.D
end
