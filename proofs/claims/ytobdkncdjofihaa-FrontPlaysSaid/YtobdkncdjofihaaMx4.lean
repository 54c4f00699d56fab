/- Printed for this seat by a program of this session (over the kit's print), with contracts of its own laid in. -/
import Derived.Test.YtobdkncdjofihaaMx0
import Derived.Test.YtobdkncdjofihaaMx1
import Derived.Test.YtobdkncdjofihaaMx2
import Derived.Test.YtobdkncdjofihaaMx3
namespace Go.Proofs.Ytobdkncdjofihaa.M
open Go.RowKit Go.Proofs.YtobdkncdjofihaaW.PrintWords Go.Proofs.YtobdkncdjofihaaW.PrintLast Go.Proofs.YtobdkncdjofihaaW.PrintMore
attribute [local go_sem] max2_int min2_int max_two min_two max_three min_three max_four min_four   -- for this text's walks alone
set_option linter.unusedVariables false
set_option linter.unusedSimpArgs false

/-! ### blackboardlaw17_FrontPlays: function 3 -/
mutual
def blackboardlaw17_FrontPlays.l0 : Nat → List (S30) → Bool → Int → Int → Int → Int → Int → Int → Int → Int → Int → Int → Int → Int → Int → Option (Bool)
 | 0, _, _, _, _, _, _, _, _, _, _, _, _, _, _, _ => none
 | k + 1, x1, x6, x7, x8, x9, x174000, x174001, x174002, x174003, x182000, x182001, x182002, x182003, x182004, x182005 => if x9 < (x1.length : Int) then (if 0 ≤ x9 then (if ((rd_T30 x1 x9).f0) = 0 then (blackboardlaw17_FrontPlays.j1 k x1 x6 x7 x8 x9 ((rd_T30 x1 x9).f0) (((rd_T30 x1 x9).f0) == 0) x174000 x174001 x174002 x174003 x182000 x182001 x182002 x182003 x182004 x182005 ((rd_T30 x1 x9).f0) ((rd_T30 x1 x9).f1) ((rd_T30 x1 x9).f2)) else (blackboardlaw17_FrontPlays.j1 k x1 x6 x7 x8 x9 ((rd_T30 x1 x9).f0) (((rd_T30 x1 x9).f0) == 1) x174000 x174001 x174002 x174003 x182000 x182001 x182002 x182003 x182004 x182005 ((rd_T30 x1 x9).f0) ((rd_T30 x1 x9).f1) ((rd_T30 x1 x9).f2))) else (none)) else (some true)
def blackboardlaw17_FrontPlays.j7 : Nat → List (S30) → Bool → Int → Int → Int → Int → Int → Int → Int → Int → Int → Int → Int → Int → Int → Option (Bool)
 | 0, _, _, _, _, _, _, _, _, _, _, _, _, _, _, _ => none
 | k + 1, x1, x6, x7, x8, x9, x174000, x174001, x174002, x174003, x182000, x182001, x182002, x182003, x182004, x182005 => if x7 ≥ 0 then (blackboardlaw17_FrontPlays.j8 k x1 x6 x7 x8 x9 (wrap64 (x174001 - x8)) x174000 x174001 x174002 x174003 x182000 x182001 x182002 x182003 x182004 x182005) else (blackboardlaw17_FrontPlays.j8 k x1 x6 x7 x8 x9 0 x174000 x174001 x174002 x174003 x182000 x182001 x182002 x182003 x182004 x182005)
def blackboardlaw17_FrontPlays.j8 : Nat → List (S30) → Bool → Int → Int → Int → Int → Int → Int → Int → Int → Int → Int → Int → Int → Int → Int → Option (Bool)
 | 0, _, _, _, _, _, _, _, _, _, _, _, _, _, _, _, _ => none
 | k + 1, x1, x6, x7, x8, x9, x15, x174000, x174001, x174002, x174003, x182000, x182001, x182002, x182003, x182004, x182005 => (front_Front_Block.f x182000 x182001 x182002 x182003 x182004 x182005).bind fun bt217 => (if bt217.1 = x7 then ((front_Front_Left.f bt217.2.1 bt217.2.2.1 bt217.2.2.2.1 bt217.2.2.2.2.1 bt217.2.2.2.2.2.1 bt217.2.2.2.2.2.2).bind fun bt224 => (if bt224.1 = x15 then (blackboardlaw17_FrontPlays.l0 k x1 x6 x7 x8 (wrap64 (x9 + 1)) x174000 x174001 x174002 x174003 bt224.2.1 bt224.2.2.1 bt224.2.2.2.1 bt224.2.2.2.2.1 bt224.2.2.2.2.2.1 bt224.2.2.2.2.2.2) else (some false))) else (some false))
def blackboardlaw17_FrontPlays.j1 : Nat → List (S30) → Bool → Int → Int → Int → Int → Bool → Int → Int → Int → Int → Int → Int → Int → Int → Int → Int → Int → Int → Int → Option (Bool)
 | 0, _, _, _, _, _, _, _, _, _, _, _, _, _, _, _, _, _, _, _, _ => none
 | k + 1, x1, x6, x7, x8, x9, x38, x39, x174000, x174001, x174002, x174003, x182000, x182001, x182002, x182003, x182004, x182005, x185000, x185001, x185002 => if x39 = true then (if x6 = true then (if x7 < 0 then (if x185001 ≥ 0 then (if x185001 < x174000 then (if x185002 ≥ 0 then (blackboardlaw17_FrontPlays.j2 k x1 x6 x7 x8 x9 (decide (x185002 < x174001)) x174000 x174001 x174002 x174003 x182000 x182001 x182002 x182003 x182004 x182005 x185000 x185001 x185002) else (blackboardlaw17_FrontPlays.j2 k x1 x6 x7 x8 x9 false x174000 x174001 x174002 x174003 x182000 x182001 x182002 x182003 x182004 x182005 x185000 x185001 x185002)) else (blackboardlaw17_FrontPlays.j2 k x1 x6 x7 x8 x9 false x174000 x174001 x174002 x174003 x182000 x182001 x182002 x182003 x182004 x182005 x185000 x185001 x185002)) else (blackboardlaw17_FrontPlays.j2 k x1 x6 x7 x8 x9 false x174000 x174001 x174002 x174003 x182000 x182001 x182002 x182003 x182004 x182005 x185000 x185001 x185002)) else (blackboardlaw17_FrontPlays.j2 k x1 x6 x7 x8 x9 false x174000 x174001 x174002 x174003 x182000 x182001 x182002 x182003 x182004 x182005 x185000 x185001 x185002)) else (blackboardlaw17_FrontPlays.j2 k x1 x6 x7 x8 x9 false x174000 x174001 x174002 x174003 x182000 x182001 x182002 x182003 x182004 x182005 x185000 x185001 x185002)) else (if x38 = 2 then (blackboardlaw17_FrontPlays.j3 k x1 x6 x7 x8 x9 x38 (x38 == 2) x174000 x174001 x174002 x174003 x182000 x182001 x182002 x182003 x182004 x182005 x185000 x185001 x185002) else (if x38 = 3 then (blackboardlaw17_FrontPlays.j3 k x1 x6 x7 x8 x9 x38 (x38 == 3) x174000 x174001 x174002 x174003 x182000 x182001 x182002 x182003 x182004 x182005 x185000 x185001 x185002) else (if x38 = 4 then (blackboardlaw17_FrontPlays.j3 k x1 x6 x7 x8 x9 x38 (x38 == 4) x174000 x174001 x174002 x174003 x182000 x182001 x182002 x182003 x182004 x182005 x185000 x185001 x185002) else (blackboardlaw17_FrontPlays.j3 k x1 x6 x7 x8 x9 x38 (x38 == 5) x174000 x174001 x174002 x174003 x182000 x182001 x182002 x182003 x182004 x182005 x185000 x185001 x185002))))
def blackboardlaw17_FrontPlays.j2 : Nat → List (S30) → Bool → Int → Int → Int → Bool → Int → Int → Int → Int → Int → Int → Int → Int → Int → Int → Int → Int → Int → Option (Bool)
 | 0, _, _, _, _, _, _, _, _, _, _, _, _, _, _, _, _, _, _, _ => none
 | k + 1, x1, x6, x7, x8, x9, x11, x174000, x174001, x174002, x174003, x182000, x182001, x182002, x182003, x182004, x182005, x185000, x185001, x185002 => (front_Front_Open.f x182000 x182001 x182002 x182003 x182004 x182005 x185001 x185002).bind fun bt185 => (if (bt185.1 != x11) = true then (some false) else (if x11 = true then (blackboardlaw17_FrontPlays.j7 k x1 x6 x185001 x185002 x9 x174000 x174001 x174002 x174003 bt185.2.1 bt185.2.2.1 bt185.2.2.2.1 bt185.2.2.2.2.1 bt185.2.2.2.2.2.1 bt185.2.2.2.2.2.2) else (blackboardlaw17_FrontPlays.j7 k x1 x6 x7 x8 x9 x174000 x174001 x174002 x174003 bt185.2.1 bt185.2.2.1 bt185.2.2.2.1 bt185.2.2.2.2.1 bt185.2.2.2.2.2.1 bt185.2.2.2.2.2.2)))
def blackboardlaw17_FrontPlays.j3 : Nat → List (S30) → Bool → Int → Int → Int → Int → Bool → Int → Int → Int → Int → Int → Int → Int → Int → Int → Int → Int → Int → Int → Option (Bool)
 | 0, _, _, _, _, _, _, _, _, _, _, _, _, _, _, _, _, _, _, _, _ => none
 | k + 1, x1, x6, x7, x8, x9, x38, x84, x174000, x174001, x174002, x174003, x182000, x182001, x182002, x182003, x182004, x182005, x185000, x185001, x185002 => if x84 = true then ((front_Front_Next.f x182000 x182001 x182002 x182003 x182004 x182005).bind fun bt192 => (if x185000 > 2 then ((front_Front_Take.f bt192.2.2.2.1 bt192.2.2.2.2.1 bt192.2.2.2.2.2.1 bt192.2.2.2.2.2.2.1 bt192.2.2.2.2.2.2.2.1 bt192.2.2.2.2.2.2.2.2).bind fun bt201 => (blackboardlaw17_FrontPlays.j4 k x1 x6 x7 x8 x9 bt201.1 bt201.2.1 bt201.2.2.1 x174000 x174001 x174002 x174003 bt201.2.2.2.1 bt201.2.2.2.2.1 bt201.2.2.2.2.2.1 bt201.2.2.2.2.2.2.1 bt201.2.2.2.2.2.2.2.1 bt201.2.2.2.2.2.2.2.2 x185000 x185001 x185002)) else (blackboardlaw17_FrontPlays.j4 k x1 x6 x7 x8 x9 bt192.1 bt192.2.1 bt192.2.2.1 x174000 x174001 x174002 x174003 bt192.2.2.2.1 bt192.2.2.2.2.1 bt192.2.2.2.2.2.1 bt192.2.2.2.2.2.2.1 bt192.2.2.2.2.2.2.2.1 bt192.2.2.2.2.2.2.2.2 x185000 x185001 x185002))) else (if x38 = 6 then ((front_Front_Shut.f x182000 x182001 x182002 x182003 x182004 x182005).bind fun bt210 => (if bt210.1 = x7 then (blackboardlaw17_FrontPlays.j7 k x1 x6 (-1) x8 x9 x174000 x174001 x174002 x174003 bt210.2.1 bt210.2.2.1 bt210.2.2.2.1 bt210.2.2.2.2.1 bt210.2.2.2.2.2.1 bt210.2.2.2.2.2.2) else (some false))) else (blackboardlaw17_FrontPlays.j7 k x1 x6 x7 x8 x9 x174000 x174001 x174002 x174003 x182000 x182001 x182002 x182003 x182004 x182005))
def blackboardlaw17_FrontPlays.j4 : Nat → List (S30) → Bool → Int → Int → Int → Int → Int → Bool → Int → Int → Int → Int → Int → Int → Int → Int → Int → Int → Int → Int → Int → Option (Bool)
 | 0, _, _, _, _, _, _, _, _, _, _, _, _, _, _, _, _, _, _, _, _, _ => none
 | k + 1, x1, x6, x7, x8, x9, x12, x13, x14, x174000, x174001, x174002, x174003, x182000, x182001, x182002, x182003, x182004, x182005, x185000, x185001, x185002 => if (x14 != (decide (x7 ≥ 0))) = true then (blackboardlaw17_FrontPlays.j5 k x1 x6 x7 x8 x9 x14 true x174000 x174001 x174002 x174003 x182000 x182001 x182002 x182003 x182004 x182005 x185000 x185001 x185002) else (if x14 = true then (if x12 = x7 then (if x13 = x8 then (blackboardlaw17_FrontPlays.j5 k x1 x6 x7 x8 x9 x14 false x174000 x174001 x174002 x174003 x182000 x182001 x182002 x182003 x182004 x182005 x185000 x185001 x185002) else (blackboardlaw17_FrontPlays.j5 k x1 x6 x7 x8 x9 x14 true x174000 x174001 x174002 x174003 x182000 x182001 x182002 x182003 x182004 x182005 x185000 x185001 x185002)) else (blackboardlaw17_FrontPlays.j5 k x1 x6 x7 x8 x9 x14 true x174000 x174001 x174002 x174003 x182000 x182001 x182002 x182003 x182004 x182005 x185000 x185001 x185002)) else (if x12 = 0 then (blackboardlaw17_FrontPlays.j5 k x1 x6 x7 x8 x9 x14 (x13 != 0) x174000 x174001 x174002 x174003 x182000 x182001 x182002 x182003 x182004 x182005 x185000 x185001 x185002) else (blackboardlaw17_FrontPlays.j5 k x1 x6 x7 x8 x9 x14 true x174000 x174001 x174002 x174003 x182000 x182001 x182002 x182003 x182004 x182005 x185000 x185001 x185002)))
def blackboardlaw17_FrontPlays.j5 : Nat → List (S30) → Bool → Int → Int → Int → Bool → Bool → Int → Int → Int → Int → Int → Int → Int → Int → Int → Int → Int → Int → Int → Option (Bool)
 | 0, _, _, _, _, _, _, _, _, _, _, _, _, _, _, _, _, _, _, _, _ => none
 | k + 1, x1, x6, x7, x8, x9, x14, x132, x174000, x174001, x174002, x174003, x182000, x182001, x182002, x182003, x182004, x182005, x185000, x185001, x185002 => if x132 = true then (some false) else (if x14 = true then (blackboardlaw17_FrontPlays.j6 k x1 x6 x7 x8 x9 (decide (x185000 > 2)) x174000 x174001 x174002 x174003 x182000 x182001 x182002 x182003 x182004 x182005) else (blackboardlaw17_FrontPlays.j6 k x1 x6 x7 x8 x9 false x174000 x174001 x174002 x174003 x182000 x182001 x182002 x182003 x182004 x182005))
def blackboardlaw17_FrontPlays.j6 : Nat → List (S30) → Bool → Int → Int → Int → Bool → Int → Int → Int → Int → Int → Int → Int → Int → Int → Int → Option (Bool)
 | 0, _, _, _, _, _, _, _, _, _, _, _, _, _, _, _, _ => none
 | k + 1, x1, x6, x7, x8, x9, x138, x174000, x174001, x174002, x174003, x182000, x182001, x182002, x182003, x182004, x182005 => if x138 = true then (if (wrap64 (x8 + 1)) = x174001 then (blackboardlaw17_FrontPlays.j7 k x1 x6 (-1) (wrap64 (x8 + 1)) x9 x174000 x174001 x174002 x174003 x182000 x182001 x182002 x182003 x182004 x182005) else (blackboardlaw17_FrontPlays.j7 k x1 x6 x7 (wrap64 (x8 + 1)) x9 x174000 x174001 x174002 x174003 x182000 x182001 x182002 x182003 x182004 x182005)) else (blackboardlaw17_FrontPlays.j7 k x1 x6 x7 x8 x9 x174000 x174001 x174002 x174003 x182000 x182001 x182002 x182003 x182004 x182005)
end
def blackboardlaw17_FrontPlays.f (k : Nat) (a0_0 : Int) (a0_1 : Int) (a0_2 : Int) (a0_3 : Int) (l1 : List (S30)) : Option (Bool) := (blackboardlaw17_awake.f).bind fun t174 => (if t174 = true then (if (l1.length : Int) > 300 then (some true) else ((front_New.f a0_0 a0_1 a0_2 a0_3).bind fun bt175 => ((blackboardref1_GeoMay.f a0_0 a0_1 a0_2 a0_3).bind fun t182 => (blackboardlaw17_FrontPlays.l0 k l1 t182 (-1) 0 0 a0_0 a0_1 a0_2 a0_3 bt175.1 bt175.2.1 bt175.2.2.1 bt175.2.2.2.1 bt175.2.2.2.2.1 bt175.2.2.2.2.2)))) else (some false))
theorem blackboardlaw17_FrontPlays.mono_l : ∀ k, (∀ y0 y1 y2 y3 y4 y5 y6 y7 y8 y9 y10 y11 y12 y13 y14, LeO (blackboardlaw17_FrontPlays.l0 k y0 y1 y2 y3 y4 y5 y6 y7 y8 y9 y10 y11 y12 y13 y14) (blackboardlaw17_FrontPlays.l0 (k + 1) y0 y1 y2 y3 y4 y5 y6 y7 y8 y9 y10 y11 y12 y13 y14)) ∧ (∀ y0 y1 y2 y3 y4 y5 y6 y7 y8 y9 y10 y11 y12 y13 y14, LeO (blackboardlaw17_FrontPlays.j7 k y0 y1 y2 y3 y4 y5 y6 y7 y8 y9 y10 y11 y12 y13 y14) (blackboardlaw17_FrontPlays.j7 (k + 1) y0 y1 y2 y3 y4 y5 y6 y7 y8 y9 y10 y11 y12 y13 y14)) ∧ (∀ y0 y1 y2 y3 y4 y5 y6 y7 y8 y9 y10 y11 y12 y13 y14 y15, LeO (blackboardlaw17_FrontPlays.j8 k y0 y1 y2 y3 y4 y5 y6 y7 y8 y9 y10 y11 y12 y13 y14 y15) (blackboardlaw17_FrontPlays.j8 (k + 1) y0 y1 y2 y3 y4 y5 y6 y7 y8 y9 y10 y11 y12 y13 y14 y15)) ∧ (∀ y0 y1 y2 y3 y4 y5 y6 y7 y8 y9 y10 y11 y12 y13 y14 y15 y16 y17 y18 y19, LeO (blackboardlaw17_FrontPlays.j1 k y0 y1 y2 y3 y4 y5 y6 y7 y8 y9 y10 y11 y12 y13 y14 y15 y16 y17 y18 y19) (blackboardlaw17_FrontPlays.j1 (k + 1) y0 y1 y2 y3 y4 y5 y6 y7 y8 y9 y10 y11 y12 y13 y14 y15 y16 y17 y18 y19)) ∧ (∀ y0 y1 y2 y3 y4 y5 y6 y7 y8 y9 y10 y11 y12 y13 y14 y15 y16 y17 y18, LeO (blackboardlaw17_FrontPlays.j2 k y0 y1 y2 y3 y4 y5 y6 y7 y8 y9 y10 y11 y12 y13 y14 y15 y16 y17 y18) (blackboardlaw17_FrontPlays.j2 (k + 1) y0 y1 y2 y3 y4 y5 y6 y7 y8 y9 y10 y11 y12 y13 y14 y15 y16 y17 y18)) ∧ (∀ y0 y1 y2 y3 y4 y5 y6 y7 y8 y9 y10 y11 y12 y13 y14 y15 y16 y17 y18 y19, LeO (blackboardlaw17_FrontPlays.j3 k y0 y1 y2 y3 y4 y5 y6 y7 y8 y9 y10 y11 y12 y13 y14 y15 y16 y17 y18 y19) (blackboardlaw17_FrontPlays.j3 (k + 1) y0 y1 y2 y3 y4 y5 y6 y7 y8 y9 y10 y11 y12 y13 y14 y15 y16 y17 y18 y19)) ∧ (∀ y0 y1 y2 y3 y4 y5 y6 y7 y8 y9 y10 y11 y12 y13 y14 y15 y16 y17 y18 y19 y20, LeO (blackboardlaw17_FrontPlays.j4 k y0 y1 y2 y3 y4 y5 y6 y7 y8 y9 y10 y11 y12 y13 y14 y15 y16 y17 y18 y19 y20) (blackboardlaw17_FrontPlays.j4 (k + 1) y0 y1 y2 y3 y4 y5 y6 y7 y8 y9 y10 y11 y12 y13 y14 y15 y16 y17 y18 y19 y20)) ∧ (∀ y0 y1 y2 y3 y4 y5 y6 y7 y8 y9 y10 y11 y12 y13 y14 y15 y16 y17 y18 y19, LeO (blackboardlaw17_FrontPlays.j5 k y0 y1 y2 y3 y4 y5 y6 y7 y8 y9 y10 y11 y12 y13 y14 y15 y16 y17 y18 y19) (blackboardlaw17_FrontPlays.j5 (k + 1) y0 y1 y2 y3 y4 y5 y6 y7 y8 y9 y10 y11 y12 y13 y14 y15 y16 y17 y18 y19)) ∧ (∀ y0 y1 y2 y3 y4 y5 y6 y7 y8 y9 y10 y11 y12 y13 y14 y15, LeO (blackboardlaw17_FrontPlays.j6 k y0 y1 y2 y3 y4 y5 y6 y7 y8 y9 y10 y11 y12 y13 y14 y15) (blackboardlaw17_FrontPlays.j6 (k + 1) y0 y1 y2 y3 y4 y5 y6 y7 y8 y9 y10 y11 y12 y13 y14 y15))
 | 0 => ⟨fun _ _ _ _ _ _ _ _ _ _ _ _ _ _ _ r h => by simp [blackboardlaw17_FrontPlays.l0] at h, fun _ _ _ _ _ _ _ _ _ _ _ _ _ _ _ r h => by simp [blackboardlaw17_FrontPlays.j7] at h, fun _ _ _ _ _ _ _ _ _ _ _ _ _ _ _ _ r h => by simp [blackboardlaw17_FrontPlays.j8] at h, fun _ _ _ _ _ _ _ _ _ _ _ _ _ _ _ _ _ _ _ _ r h => by simp [blackboardlaw17_FrontPlays.j1] at h, fun _ _ _ _ _ _ _ _ _ _ _ _ _ _ _ _ _ _ _ r h => by simp [blackboardlaw17_FrontPlays.j2] at h, fun _ _ _ _ _ _ _ _ _ _ _ _ _ _ _ _ _ _ _ _ r h => by simp [blackboardlaw17_FrontPlays.j3] at h, fun _ _ _ _ _ _ _ _ _ _ _ _ _ _ _ _ _ _ _ _ _ r h => by simp [blackboardlaw17_FrontPlays.j4] at h, fun _ _ _ _ _ _ _ _ _ _ _ _ _ _ _ _ _ _ _ _ r h => by simp [blackboardlaw17_FrontPlays.j5] at h, fun _ _ _ _ _ _ _ _ _ _ _ _ _ _ _ _ r h => by simp [blackboardlaw17_FrontPlays.j6] at h⟩
 | k + 1 => by
  obtain ⟨ih0, ih1, ih2, ih3, ih4, ih5, ih6, ih7, ih8⟩ := blackboardlaw17_FrontPlays.mono_l k
  refine ⟨?_, ?_, ?_, ?_, ?_, ?_, ?_, ?_, ?_⟩
  ·
   intro y0 y1 y2 y3 y4 y5 y6 y7 y8 y9 y10 y11 y12 y13 y14
   unfold blackboardlaw17_FrontPlays.l0
   repeat' first
   | (with_reducible exact ih0 _ _ _ _ _ _ _ _ _ _ _ _ _ _ _)
   | (with_reducible exact ih1 _ _ _ _ _ _ _ _ _ _ _ _ _ _ _)
   | (with_reducible exact ih2 _ _ _ _ _ _ _ _ _ _ _ _ _ _ _ _)
   | (with_reducible exact ih3 _ _ _ _ _ _ _ _ _ _ _ _ _ _ _ _ _ _ _ _)
   | (with_reducible exact ih4 _ _ _ _ _ _ _ _ _ _ _ _ _ _ _ _ _ _ _)
   | (with_reducible exact ih5 _ _ _ _ _ _ _ _ _ _ _ _ _ _ _ _ _ _ _ _)
   | (with_reducible exact ih6 _ _ _ _ _ _ _ _ _ _ _ _ _ _ _ _ _ _ _ _ _)
   | (with_reducible exact ih7 _ _ _ _ _ _ _ _ _ _ _ _ _ _ _ _ _ _ _ _)
   | (with_reducible exact ih8 _ _ _ _ _ _ _ _ _ _ _ _ _ _ _ _)
   | (with_reducible exact LeO.refl _)
   | (with_reducible exact LeO.none _)
   | (with_reducible refine LeO.ite ?_ ?_)
   | (with_reducible refine LeO.bind ?_ (fun _ => ?_))
   | exact ih0 _ _ _ _ _ _ _ _ _ _ _ _ _ _ _
   | exact ih1 _ _ _ _ _ _ _ _ _ _ _ _ _ _ _
   | exact ih2 _ _ _ _ _ _ _ _ _ _ _ _ _ _ _ _
   | exact ih3 _ _ _ _ _ _ _ _ _ _ _ _ _ _ _ _ _ _ _ _
   | exact ih4 _ _ _ _ _ _ _ _ _ _ _ _ _ _ _ _ _ _ _
   | exact ih5 _ _ _ _ _ _ _ _ _ _ _ _ _ _ _ _ _ _ _ _
   | exact ih6 _ _ _ _ _ _ _ _ _ _ _ _ _ _ _ _ _ _ _ _ _
   | exact ih7 _ _ _ _ _ _ _ _ _ _ _ _ _ _ _ _ _ _ _ _
   | exact ih8 _ _ _ _ _ _ _ _ _ _ _ _ _ _ _ _
   | exact LeO.none _
   | refine LeO.ite ?_ ?_
   | refine LeO.bind ?_ (fun _ => ?_)
  ·
   intro y0 y1 y2 y3 y4 y5 y6 y7 y8 y9 y10 y11 y12 y13 y14
   unfold blackboardlaw17_FrontPlays.j7
   repeat' first
   | (with_reducible exact ih0 _ _ _ _ _ _ _ _ _ _ _ _ _ _ _)
   | (with_reducible exact ih1 _ _ _ _ _ _ _ _ _ _ _ _ _ _ _)
   | (with_reducible exact ih2 _ _ _ _ _ _ _ _ _ _ _ _ _ _ _ _)
   | (with_reducible exact ih3 _ _ _ _ _ _ _ _ _ _ _ _ _ _ _ _ _ _ _ _)
   | (with_reducible exact ih4 _ _ _ _ _ _ _ _ _ _ _ _ _ _ _ _ _ _ _)
   | (with_reducible exact ih5 _ _ _ _ _ _ _ _ _ _ _ _ _ _ _ _ _ _ _ _)
   | (with_reducible exact ih6 _ _ _ _ _ _ _ _ _ _ _ _ _ _ _ _ _ _ _ _ _)
   | (with_reducible exact ih7 _ _ _ _ _ _ _ _ _ _ _ _ _ _ _ _ _ _ _ _)
   | (with_reducible exact ih8 _ _ _ _ _ _ _ _ _ _ _ _ _ _ _ _)
   | (with_reducible exact LeO.refl _)
   | (with_reducible exact LeO.none _)
   | (with_reducible refine LeO.ite ?_ ?_)
   | (with_reducible refine LeO.bind ?_ (fun _ => ?_))
   | exact ih0 _ _ _ _ _ _ _ _ _ _ _ _ _ _ _
   | exact ih1 _ _ _ _ _ _ _ _ _ _ _ _ _ _ _
   | exact ih2 _ _ _ _ _ _ _ _ _ _ _ _ _ _ _ _
   | exact ih3 _ _ _ _ _ _ _ _ _ _ _ _ _ _ _ _ _ _ _ _
   | exact ih4 _ _ _ _ _ _ _ _ _ _ _ _ _ _ _ _ _ _ _
   | exact ih5 _ _ _ _ _ _ _ _ _ _ _ _ _ _ _ _ _ _ _ _
   | exact ih6 _ _ _ _ _ _ _ _ _ _ _ _ _ _ _ _ _ _ _ _ _
   | exact ih7 _ _ _ _ _ _ _ _ _ _ _ _ _ _ _ _ _ _ _ _
   | exact ih8 _ _ _ _ _ _ _ _ _ _ _ _ _ _ _ _
   | exact LeO.none _
   | refine LeO.ite ?_ ?_
   | refine LeO.bind ?_ (fun _ => ?_)
  ·
   intro y0 y1 y2 y3 y4 y5 y6 y7 y8 y9 y10 y11 y12 y13 y14 y15
   unfold blackboardlaw17_FrontPlays.j8
   repeat' first
   | (with_reducible exact ih0 _ _ _ _ _ _ _ _ _ _ _ _ _ _ _)
   | (with_reducible exact ih1 _ _ _ _ _ _ _ _ _ _ _ _ _ _ _)
   | (with_reducible exact ih2 _ _ _ _ _ _ _ _ _ _ _ _ _ _ _ _)
   | (with_reducible exact ih3 _ _ _ _ _ _ _ _ _ _ _ _ _ _ _ _ _ _ _ _)
   | (with_reducible exact ih4 _ _ _ _ _ _ _ _ _ _ _ _ _ _ _ _ _ _ _)
   | (with_reducible exact ih5 _ _ _ _ _ _ _ _ _ _ _ _ _ _ _ _ _ _ _ _)
   | (with_reducible exact ih6 _ _ _ _ _ _ _ _ _ _ _ _ _ _ _ _ _ _ _ _ _)
   | (with_reducible exact ih7 _ _ _ _ _ _ _ _ _ _ _ _ _ _ _ _ _ _ _ _)
   | (with_reducible exact ih8 _ _ _ _ _ _ _ _ _ _ _ _ _ _ _ _)
   | (with_reducible exact LeO.refl _)
   | (with_reducible exact LeO.none _)
   | (with_reducible refine LeO.ite ?_ ?_)
   | (with_reducible refine LeO.bind ?_ (fun _ => ?_))
   | exact ih0 _ _ _ _ _ _ _ _ _ _ _ _ _ _ _
   | exact ih1 _ _ _ _ _ _ _ _ _ _ _ _ _ _ _
   | exact ih2 _ _ _ _ _ _ _ _ _ _ _ _ _ _ _ _
   | exact ih3 _ _ _ _ _ _ _ _ _ _ _ _ _ _ _ _ _ _ _ _
   | exact ih4 _ _ _ _ _ _ _ _ _ _ _ _ _ _ _ _ _ _ _
   | exact ih5 _ _ _ _ _ _ _ _ _ _ _ _ _ _ _ _ _ _ _ _
   | exact ih6 _ _ _ _ _ _ _ _ _ _ _ _ _ _ _ _ _ _ _ _ _
   | exact ih7 _ _ _ _ _ _ _ _ _ _ _ _ _ _ _ _ _ _ _ _
   | exact ih8 _ _ _ _ _ _ _ _ _ _ _ _ _ _ _ _
   | exact LeO.none _
   | refine LeO.ite ?_ ?_
   | refine LeO.bind ?_ (fun _ => ?_)
  ·
   intro y0 y1 y2 y3 y4 y5 y6 y7 y8 y9 y10 y11 y12 y13 y14 y15 y16 y17 y18 y19
   unfold blackboardlaw17_FrontPlays.j1
   repeat' first
   | (with_reducible exact ih0 _ _ _ _ _ _ _ _ _ _ _ _ _ _ _)
   | (with_reducible exact ih1 _ _ _ _ _ _ _ _ _ _ _ _ _ _ _)
   | (with_reducible exact ih2 _ _ _ _ _ _ _ _ _ _ _ _ _ _ _ _)
   | (with_reducible exact ih3 _ _ _ _ _ _ _ _ _ _ _ _ _ _ _ _ _ _ _ _)
   | (with_reducible exact ih4 _ _ _ _ _ _ _ _ _ _ _ _ _ _ _ _ _ _ _)
   | (with_reducible exact ih5 _ _ _ _ _ _ _ _ _ _ _ _ _ _ _ _ _ _ _ _)
   | (with_reducible exact ih6 _ _ _ _ _ _ _ _ _ _ _ _ _ _ _ _ _ _ _ _ _)
   | (with_reducible exact ih7 _ _ _ _ _ _ _ _ _ _ _ _ _ _ _ _ _ _ _ _)
   | (with_reducible exact ih8 _ _ _ _ _ _ _ _ _ _ _ _ _ _ _ _)
   | (with_reducible exact LeO.refl _)
   | (with_reducible exact LeO.none _)
   | (with_reducible refine LeO.ite ?_ ?_)
   | (with_reducible refine LeO.bind ?_ (fun _ => ?_))
   | exact ih0 _ _ _ _ _ _ _ _ _ _ _ _ _ _ _
   | exact ih1 _ _ _ _ _ _ _ _ _ _ _ _ _ _ _
   | exact ih2 _ _ _ _ _ _ _ _ _ _ _ _ _ _ _ _
   | exact ih3 _ _ _ _ _ _ _ _ _ _ _ _ _ _ _ _ _ _ _ _
   | exact ih4 _ _ _ _ _ _ _ _ _ _ _ _ _ _ _ _ _ _ _
   | exact ih5 _ _ _ _ _ _ _ _ _ _ _ _ _ _ _ _ _ _ _ _
   | exact ih6 _ _ _ _ _ _ _ _ _ _ _ _ _ _ _ _ _ _ _ _ _
   | exact ih7 _ _ _ _ _ _ _ _ _ _ _ _ _ _ _ _ _ _ _ _
   | exact ih8 _ _ _ _ _ _ _ _ _ _ _ _ _ _ _ _
   | exact LeO.none _
   | refine LeO.ite ?_ ?_
   | refine LeO.bind ?_ (fun _ => ?_)
  ·
   intro y0 y1 y2 y3 y4 y5 y6 y7 y8 y9 y10 y11 y12 y13 y14 y15 y16 y17 y18
   unfold blackboardlaw17_FrontPlays.j2
   repeat' first
   | (with_reducible exact ih0 _ _ _ _ _ _ _ _ _ _ _ _ _ _ _)
   | (with_reducible exact ih1 _ _ _ _ _ _ _ _ _ _ _ _ _ _ _)
   | (with_reducible exact ih2 _ _ _ _ _ _ _ _ _ _ _ _ _ _ _ _)
   | (with_reducible exact ih3 _ _ _ _ _ _ _ _ _ _ _ _ _ _ _ _ _ _ _ _)
   | (with_reducible exact ih4 _ _ _ _ _ _ _ _ _ _ _ _ _ _ _ _ _ _ _)
   | (with_reducible exact ih5 _ _ _ _ _ _ _ _ _ _ _ _ _ _ _ _ _ _ _ _)
   | (with_reducible exact ih6 _ _ _ _ _ _ _ _ _ _ _ _ _ _ _ _ _ _ _ _ _)
   | (with_reducible exact ih7 _ _ _ _ _ _ _ _ _ _ _ _ _ _ _ _ _ _ _ _)
   | (with_reducible exact ih8 _ _ _ _ _ _ _ _ _ _ _ _ _ _ _ _)
   | (with_reducible exact LeO.refl _)
   | (with_reducible exact LeO.none _)
   | (with_reducible refine LeO.ite ?_ ?_)
   | (with_reducible refine LeO.bind ?_ (fun _ => ?_))
   | exact ih0 _ _ _ _ _ _ _ _ _ _ _ _ _ _ _
   | exact ih1 _ _ _ _ _ _ _ _ _ _ _ _ _ _ _
   | exact ih2 _ _ _ _ _ _ _ _ _ _ _ _ _ _ _ _
   | exact ih3 _ _ _ _ _ _ _ _ _ _ _ _ _ _ _ _ _ _ _ _
   | exact ih4 _ _ _ _ _ _ _ _ _ _ _ _ _ _ _ _ _ _ _
   | exact ih5 _ _ _ _ _ _ _ _ _ _ _ _ _ _ _ _ _ _ _ _
   | exact ih6 _ _ _ _ _ _ _ _ _ _ _ _ _ _ _ _ _ _ _ _ _
   | exact ih7 _ _ _ _ _ _ _ _ _ _ _ _ _ _ _ _ _ _ _ _
   | exact ih8 _ _ _ _ _ _ _ _ _ _ _ _ _ _ _ _
   | exact LeO.none _
   | refine LeO.ite ?_ ?_
   | refine LeO.bind ?_ (fun _ => ?_)
  ·
   intro y0 y1 y2 y3 y4 y5 y6 y7 y8 y9 y10 y11 y12 y13 y14 y15 y16 y17 y18 y19
   unfold blackboardlaw17_FrontPlays.j3
   repeat' first
   | (with_reducible exact ih0 _ _ _ _ _ _ _ _ _ _ _ _ _ _ _)
   | (with_reducible exact ih1 _ _ _ _ _ _ _ _ _ _ _ _ _ _ _)
   | (with_reducible exact ih2 _ _ _ _ _ _ _ _ _ _ _ _ _ _ _ _)
   | (with_reducible exact ih3 _ _ _ _ _ _ _ _ _ _ _ _ _ _ _ _ _ _ _ _)
   | (with_reducible exact ih4 _ _ _ _ _ _ _ _ _ _ _ _ _ _ _ _ _ _ _)
   | (with_reducible exact ih5 _ _ _ _ _ _ _ _ _ _ _ _ _ _ _ _ _ _ _ _)
   | (with_reducible exact ih6 _ _ _ _ _ _ _ _ _ _ _ _ _ _ _ _ _ _ _ _ _)
   | (with_reducible exact ih7 _ _ _ _ _ _ _ _ _ _ _ _ _ _ _ _ _ _ _ _)
   | (with_reducible exact ih8 _ _ _ _ _ _ _ _ _ _ _ _ _ _ _ _)
   | (with_reducible exact LeO.refl _)
   | (with_reducible exact LeO.none _)
   | (with_reducible refine LeO.ite ?_ ?_)
   | (with_reducible refine LeO.bind ?_ (fun _ => ?_))
   | exact ih0 _ _ _ _ _ _ _ _ _ _ _ _ _ _ _
   | exact ih1 _ _ _ _ _ _ _ _ _ _ _ _ _ _ _
   | exact ih2 _ _ _ _ _ _ _ _ _ _ _ _ _ _ _ _
   | exact ih3 _ _ _ _ _ _ _ _ _ _ _ _ _ _ _ _ _ _ _ _
   | exact ih4 _ _ _ _ _ _ _ _ _ _ _ _ _ _ _ _ _ _ _
   | exact ih5 _ _ _ _ _ _ _ _ _ _ _ _ _ _ _ _ _ _ _ _
   | exact ih6 _ _ _ _ _ _ _ _ _ _ _ _ _ _ _ _ _ _ _ _ _
   | exact ih7 _ _ _ _ _ _ _ _ _ _ _ _ _ _ _ _ _ _ _ _
   | exact ih8 _ _ _ _ _ _ _ _ _ _ _ _ _ _ _ _
   | exact LeO.none _
   | refine LeO.ite ?_ ?_
   | refine LeO.bind ?_ (fun _ => ?_)
  ·
   intro y0 y1 y2 y3 y4 y5 y6 y7 y8 y9 y10 y11 y12 y13 y14 y15 y16 y17 y18 y19 y20
   unfold blackboardlaw17_FrontPlays.j4
   repeat' first
   | (with_reducible exact ih0 _ _ _ _ _ _ _ _ _ _ _ _ _ _ _)
   | (with_reducible exact ih1 _ _ _ _ _ _ _ _ _ _ _ _ _ _ _)
   | (with_reducible exact ih2 _ _ _ _ _ _ _ _ _ _ _ _ _ _ _ _)
   | (with_reducible exact ih3 _ _ _ _ _ _ _ _ _ _ _ _ _ _ _ _ _ _ _ _)
   | (with_reducible exact ih4 _ _ _ _ _ _ _ _ _ _ _ _ _ _ _ _ _ _ _)
   | (with_reducible exact ih5 _ _ _ _ _ _ _ _ _ _ _ _ _ _ _ _ _ _ _ _)
   | (with_reducible exact ih6 _ _ _ _ _ _ _ _ _ _ _ _ _ _ _ _ _ _ _ _ _)
   | (with_reducible exact ih7 _ _ _ _ _ _ _ _ _ _ _ _ _ _ _ _ _ _ _ _)
   | (with_reducible exact ih8 _ _ _ _ _ _ _ _ _ _ _ _ _ _ _ _)
   | (with_reducible exact LeO.refl _)
   | (with_reducible exact LeO.none _)
   | (with_reducible refine LeO.ite ?_ ?_)
   | (with_reducible refine LeO.bind ?_ (fun _ => ?_))
   | exact ih0 _ _ _ _ _ _ _ _ _ _ _ _ _ _ _
   | exact ih1 _ _ _ _ _ _ _ _ _ _ _ _ _ _ _
   | exact ih2 _ _ _ _ _ _ _ _ _ _ _ _ _ _ _ _
   | exact ih3 _ _ _ _ _ _ _ _ _ _ _ _ _ _ _ _ _ _ _ _
   | exact ih4 _ _ _ _ _ _ _ _ _ _ _ _ _ _ _ _ _ _ _
   | exact ih5 _ _ _ _ _ _ _ _ _ _ _ _ _ _ _ _ _ _ _ _
   | exact ih6 _ _ _ _ _ _ _ _ _ _ _ _ _ _ _ _ _ _ _ _ _
   | exact ih7 _ _ _ _ _ _ _ _ _ _ _ _ _ _ _ _ _ _ _ _
   | exact ih8 _ _ _ _ _ _ _ _ _ _ _ _ _ _ _ _
   | exact LeO.none _
   | refine LeO.ite ?_ ?_
   | refine LeO.bind ?_ (fun _ => ?_)
  ·
   intro y0 y1 y2 y3 y4 y5 y6 y7 y8 y9 y10 y11 y12 y13 y14 y15 y16 y17 y18 y19
   unfold blackboardlaw17_FrontPlays.j5
   repeat' first
   | (with_reducible exact ih0 _ _ _ _ _ _ _ _ _ _ _ _ _ _ _)
   | (with_reducible exact ih1 _ _ _ _ _ _ _ _ _ _ _ _ _ _ _)
   | (with_reducible exact ih2 _ _ _ _ _ _ _ _ _ _ _ _ _ _ _ _)
   | (with_reducible exact ih3 _ _ _ _ _ _ _ _ _ _ _ _ _ _ _ _ _ _ _ _)
   | (with_reducible exact ih4 _ _ _ _ _ _ _ _ _ _ _ _ _ _ _ _ _ _ _)
   | (with_reducible exact ih5 _ _ _ _ _ _ _ _ _ _ _ _ _ _ _ _ _ _ _ _)
   | (with_reducible exact ih6 _ _ _ _ _ _ _ _ _ _ _ _ _ _ _ _ _ _ _ _ _)
   | (with_reducible exact ih7 _ _ _ _ _ _ _ _ _ _ _ _ _ _ _ _ _ _ _ _)
   | (with_reducible exact ih8 _ _ _ _ _ _ _ _ _ _ _ _ _ _ _ _)
   | (with_reducible exact LeO.refl _)
   | (with_reducible exact LeO.none _)
   | (with_reducible refine LeO.ite ?_ ?_)
   | (with_reducible refine LeO.bind ?_ (fun _ => ?_))
   | exact ih0 _ _ _ _ _ _ _ _ _ _ _ _ _ _ _
   | exact ih1 _ _ _ _ _ _ _ _ _ _ _ _ _ _ _
   | exact ih2 _ _ _ _ _ _ _ _ _ _ _ _ _ _ _ _
   | exact ih3 _ _ _ _ _ _ _ _ _ _ _ _ _ _ _ _ _ _ _ _
   | exact ih4 _ _ _ _ _ _ _ _ _ _ _ _ _ _ _ _ _ _ _
   | exact ih5 _ _ _ _ _ _ _ _ _ _ _ _ _ _ _ _ _ _ _ _
   | exact ih6 _ _ _ _ _ _ _ _ _ _ _ _ _ _ _ _ _ _ _ _ _
   | exact ih7 _ _ _ _ _ _ _ _ _ _ _ _ _ _ _ _ _ _ _ _
   | exact ih8 _ _ _ _ _ _ _ _ _ _ _ _ _ _ _ _
   | exact LeO.none _
   | refine LeO.ite ?_ ?_
   | refine LeO.bind ?_ (fun _ => ?_)
  ·
   intro y0 y1 y2 y3 y4 y5 y6 y7 y8 y9 y10 y11 y12 y13 y14 y15
   unfold blackboardlaw17_FrontPlays.j6
   repeat' first
   | (with_reducible exact ih0 _ _ _ _ _ _ _ _ _ _ _ _ _ _ _)
   | (with_reducible exact ih1 _ _ _ _ _ _ _ _ _ _ _ _ _ _ _)
   | (with_reducible exact ih2 _ _ _ _ _ _ _ _ _ _ _ _ _ _ _ _)
   | (with_reducible exact ih3 _ _ _ _ _ _ _ _ _ _ _ _ _ _ _ _ _ _ _ _)
   | (with_reducible exact ih4 _ _ _ _ _ _ _ _ _ _ _ _ _ _ _ _ _ _ _)
   | (with_reducible exact ih5 _ _ _ _ _ _ _ _ _ _ _ _ _ _ _ _ _ _ _ _)
   | (with_reducible exact ih6 _ _ _ _ _ _ _ _ _ _ _ _ _ _ _ _ _ _ _ _ _)
   | (with_reducible exact ih7 _ _ _ _ _ _ _ _ _ _ _ _ _ _ _ _ _ _ _ _)
   | (with_reducible exact ih8 _ _ _ _ _ _ _ _ _ _ _ _ _ _ _ _)
   | (with_reducible exact LeO.refl _)
   | (with_reducible exact LeO.none _)
   | (with_reducible refine LeO.ite ?_ ?_)
   | (with_reducible refine LeO.bind ?_ (fun _ => ?_))
   | exact ih0 _ _ _ _ _ _ _ _ _ _ _ _ _ _ _
   | exact ih1 _ _ _ _ _ _ _ _ _ _ _ _ _ _ _
   | exact ih2 _ _ _ _ _ _ _ _ _ _ _ _ _ _ _ _
   | exact ih3 _ _ _ _ _ _ _ _ _ _ _ _ _ _ _ _ _ _ _ _
   | exact ih4 _ _ _ _ _ _ _ _ _ _ _ _ _ _ _ _ _ _ _
   | exact ih5 _ _ _ _ _ _ _ _ _ _ _ _ _ _ _ _ _ _ _ _
   | exact ih6 _ _ _ _ _ _ _ _ _ _ _ _ _ _ _ _ _ _ _ _ _
   | exact ih7 _ _ _ _ _ _ _ _ _ _ _ _ _ _ _ _ _ _ _ _
   | exact ih8 _ _ _ _ _ _ _ _ _ _ _ _ _ _ _ _
   | exact LeO.none _
   | refine LeO.ite ?_ ?_
   | refine LeO.bind ?_ (fun _ => ?_)
theorem blackboardlaw17_FrontPlays.mono : ∀ a0 a1 a2 a3 a4 k, LeO (blackboardlaw17_FrontPlays.f k a0 a1 a2 a3 a4) (blackboardlaw17_FrontPlays.f (k + 1) a0 a1 a2 a3 a4) := by
 intro a0 a1 a2 a3 a4 k
 obtain ⟨ih0, ih1, ih2, ih3, ih4, ih5, ih6, ih7, ih8⟩ := blackboardlaw17_FrontPlays.mono_l k
 unfold blackboardlaw17_FrontPlays.f
 repeat' first
   | (with_reducible exact ih0 _ _ _ _ _ _ _ _ _ _ _ _ _ _ _)
   | (with_reducible exact ih1 _ _ _ _ _ _ _ _ _ _ _ _ _ _ _)
   | (with_reducible exact ih2 _ _ _ _ _ _ _ _ _ _ _ _ _ _ _ _)
   | (with_reducible exact ih3 _ _ _ _ _ _ _ _ _ _ _ _ _ _ _ _ _ _ _ _)
   | (with_reducible exact ih4 _ _ _ _ _ _ _ _ _ _ _ _ _ _ _ _ _ _ _)
   | (with_reducible exact ih5 _ _ _ _ _ _ _ _ _ _ _ _ _ _ _ _ _ _ _ _)
   | (with_reducible exact ih6 _ _ _ _ _ _ _ _ _ _ _ _ _ _ _ _ _ _ _ _ _)
   | (with_reducible exact ih7 _ _ _ _ _ _ _ _ _ _ _ _ _ _ _ _ _ _ _ _)
   | (with_reducible exact ih8 _ _ _ _ _ _ _ _ _ _ _ _ _ _ _ _)
   | (with_reducible exact LeO.refl _)
   | (with_reducible exact LeO.none _)
   | (with_reducible refine LeO.ite ?_ ?_)
   | (with_reducible refine LeO.bind ?_ (fun _ => ?_))
   | exact ih0 _ _ _ _ _ _ _ _ _ _ _ _ _ _ _
   | exact ih1 _ _ _ _ _ _ _ _ _ _ _ _ _ _ _
   | exact ih2 _ _ _ _ _ _ _ _ _ _ _ _ _ _ _ _
   | exact ih3 _ _ _ _ _ _ _ _ _ _ _ _ _ _ _ _ _ _ _ _
   | exact ih4 _ _ _ _ _ _ _ _ _ _ _ _ _ _ _ _ _ _ _
   | exact ih5 _ _ _ _ _ _ _ _ _ _ _ _ _ _ _ _ _ _ _ _
   | exact ih6 _ _ _ _ _ _ _ _ _ _ _ _ _ _ _ _ _ _ _ _ _
   | exact ih7 _ _ _ _ _ _ _ _ _ _ _ _ _ _ _ _ _ _ _ _
   | exact ih8 _ _ _ _ _ _ _ _ _ _ _ _ _ _ _ _
   | exact LeO.none _
   | refine LeO.ite ?_ ?_
   | refine LeO.bind ?_ (fun _ => ?_)
set_option maxHeartbeats 8000000 in
set_option maxRecDepth 100000 in
theorem blackboardlaw17_FrontPlays.calls (k : Nat) (a0_0 : Int) (a0_1 : Int) (a0_2 : Int) (a0_3 : Int) (A1 : Option Addr) (c1 : Nat) (l1 : List (S30)) (r : Bool) (w : World) (hr1 : Kd.C k30 w A1 l1.length l1) (hc1 : l1.length ≤ c1) (h : blackboardlaw17_FrontPlays.f k a0_0 a0_1 a0_2 a0_3 l1 = some r) :
  Calls Try.prog 3 #[.agg #[.int .i64 a0_0, .int .i64 a0_1, .int .i64 a0_2, .int .i64 a0_3], .slice A1 l1.length c1] w fun e w' => e = .returned (.bool r) ∧ Below w.heap.size w w' := by
 have hu23 := Try.underlying23
 have hu30 := Try.underlying30
 have HR1 := Aside0.mk hr1
 have HC1 := Aside0.mk hc1
 clear hr1 hc1
 have HB := Aside0.mk (Below.refl w.heap.size w)
 have H : ((blackboardlaw17_awake.f).bind fun t174 => (if t174 = true then (if (l1.length : Int) > 300 then (some true) else ((front_New.f a0_0 a0_1 a0_2 a0_3).bind fun bt175 => ((blackboardref1_GeoMay.f a0_0 a0_1 a0_2 a0_3).bind fun t182 => (blackboardlaw17_FrontPlays.l0 k l1 t182 (-1) 0 0 a0_0 a0_1 a0_2 a0_3 bt175.1 bt175.2.1 bt175.2.2.1 bt175.2.2.2.1 bt175.2.2.2.2.1 bt175.2.2.2.2.2)))) else (some false))) = some r := h
 clear h
 replace H := Option.bind_eq_some_iff.mp H
 obtain ⟨t174, A30, H⟩ := H
 replace H : (if t174 = true then (if (l1.length : Int) > 300 then (some true) else ((front_New.f a0_0 a0_1 a0_2 a0_3).bind fun bt175 => ((blackboardref1_GeoMay.f a0_0 a0_1 a0_2 a0_3).bind fun t182 => (blackboardlaw17_FrontPlays.l0 k l1 t182 (-1) 0 0 a0_0 a0_1 a0_2 a0_3 bt175.1 bt175.2.1 bt175.2.2.1 bt175.2.2.2.1 bt175.2.2.2.2.1 bt175.2.2.2.2.2)))) else (some false)) = some r := H
 have A3 := Aside0.mk A30
 clear A30
 by_cases c4 : t174 = true
 ·
  as_aux_lemma =>
   subst c4
   have H1 : (if (l1.length : Int) > 300 then (some true) else ((front_New.f a0_0 a0_1 a0_2 a0_3).bind fun bt175 => ((blackboardref1_GeoMay.f a0_0 a0_1 a0_2 a0_3).bind fun t182 => (blackboardlaw17_FrontPlays.l0 k l1 t182 (-1) 0 0 a0_0 a0_1 a0_2 a0_3 bt175.1 bt175.2.1 bt175.2.2.1 bt175.2.2.2.1 bt175.2.2.2.2.1 bt175.2.2.2.2.2)))) = some r := by rw [if_pos rfl] at H; exact H
   clear H
   have H := H1
   clear H1
   by_cases c5 : (l1.length : Int) > 300
   ·
    as_aux_lemma =>
     rw [if_pos c5] at H
     have c5b0 : decide (300 < (l1.length : Int)) = true := decide_eq_true c5
     have c5b1 : decide (300 < l1.length) = true := decide_eq_true (by omega)
     clear c5
     obtain rfl := Option.some.inj H
     go_enter Try.func3, Try.ntmps3
     go_wp2_with (first | ((with_reducible refine gate_dst (N := 2) rfl ?_); refine box_event ?hg (N := 2) ?hd (cs := #[.int .i64 a0_0, .int .i64 a0_1, .int .i64 a0_2, .int .i64 a0_3]) (t := 23) ?hr ?_; (case hd => rfl); (case hg => rfl); (case hr => first | (go_simp; done) | (go_simp; rfl)); intro gb173 hg w6 hbox hb; have n0_ := Aside0.mk (below_step (by repeat (first | (with_reducible first | exact HB.out | apply below_alloc | apply pw_below_drewN | apply below_drew1) | exact HB.out)) hb); have n1_ := Aside0.mk (hbox); have n2_ := Aside0.mk ((by rw [hg]; exact (below_size (by repeat (first | (with_reducible first | exact HB.out | apply below_alloc | apply pw_below_drewN | apply below_drew1) | exact HB.out))) : w.heap.size ≤ gb173)); have n3_ := Aside0.mk ((by rw [hg]; exact (below_size (by repeat (first | (with_reducible first | exact HB.out | apply below_alloc | apply pw_below_drewN | apply below_drew1) | exact HB.out))) : w.heap.size ≤ gb173)); clear HB; have HB := n0_; have BK173 := n1_; have GW173 := n2_; have GE173 := n3_; clear n0_ n1_ n2_ n3_; clear hb hbox hg) | (go_at_call 7; (with_reducible refine (blackboardlaw17_awake.calls  true _ A3.out).mono ?_); rintro e w7 ⟨rfl, hb⟩; have n0_ := Aside0.mk (blk_below (g := gb173) (o := .cells #[.int .i64 a0_0, .int .i64 a0_1, .int .i64 a0_2, .int .i64 a0_3] 23 (0, 0)) (by (with_reducible repeat (first | refine blk_drewN ?_ _ | refine blk_drew ?_ | refine blk_alloc ?_ _)); exact BK173.out) hb); have n1_ := Aside0.mk (below_step (by repeat (first | (with_reducible first | exact HB.out | apply below_alloc | apply pw_below_drewN | apply below_drew1 | refine below_set ?_ GE173.out) | exact HB.out)) hb); clear BK173; clear HB; have BK173 := n0_; have HB := n1_; clear n0_ n1_; (try clear hb); (try clear hb2); (try clear hk); (try clear hi)))
     repeat (go_quiet (first | ((with_reducible refine gate_dst (N := 2) rfl ?_); refine box_event ?hg (N := 2) ?hd (cs := #[.int .i64 a0_0, .int .i64 a0_1, .int .i64 a0_2, .int .i64 a0_3]) (t := 23) ?hr ?_; (case hd => rfl); (case hg => rfl); (case hr => first | (go_simp; done) | (go_simp; rfl)); intro gb173 hg w6 hbox hb; have n0_ := Aside0.mk (below_step (by repeat (first | (with_reducible first | exact HB.out | apply below_alloc | apply pw_below_drewN | apply below_drew1) | exact HB.out)) hb); have n1_ := Aside0.mk (hbox); have n2_ := Aside0.mk ((by rw [hg]; exact (below_size (by repeat (first | (with_reducible first | exact HB.out | apply below_alloc | apply pw_below_drewN | apply below_drew1) | exact HB.out))) : w.heap.size ≤ gb173)); have n3_ := Aside0.mk ((by rw [hg]; exact (below_size (by repeat (first | (with_reducible first | exact HB.out | apply below_alloc | apply pw_below_drewN | apply below_drew1) | exact HB.out))) : w.heap.size ≤ gb173)); clear HB; have HB := n0_; have BK173 := n1_; have GW173 := n2_; have GE173 := n3_; clear n0_ n1_ n2_ n3_; clear hb hbox hg) | (go_at_call 7; (with_reducible refine (blackboardlaw17_awake.calls  true _ A3.out).mono ?_); rintro e w7 ⟨rfl, hb⟩; have n0_ := Aside0.mk (blk_below (g := gb173) (o := .cells #[.int .i64 a0_0, .int .i64 a0_1, .int .i64 a0_2, .int .i64 a0_3] 23 (0, 0)) (by (with_reducible repeat (first | refine blk_drewN ?_ _ | refine blk_drew ?_ | refine blk_alloc ?_ _)); exact BK173.out) hb); have n1_ := Aside0.mk (below_step (by repeat (first | (with_reducible first | exact HB.out | apply below_alloc | apply pw_below_drewN | apply below_drew1 | refine below_set ?_ GE173.out) | exact HB.out)) hb); clear BK173; clear HB; have BK173 := n0_; have HB := n1_; clear n0_ n1_; (try clear hb); (try clear hb2); (try clear hk); (try clear hi))); try go_wp2_with (first | ((with_reducible refine gate_dst (N := 2) rfl ?_); refine box_event ?hg (N := 2) ?hd (cs := #[.int .i64 a0_0, .int .i64 a0_1, .int .i64 a0_2, .int .i64 a0_3]) (t := 23) ?hr ?_; (case hd => rfl); (case hg => rfl); (case hr => first | (go_simp; done) | (go_simp; rfl)); intro gb173 hg w6 hbox hb; have n0_ := Aside0.mk (below_step (by repeat (first | (with_reducible first | exact HB.out | apply below_alloc | apply pw_below_drewN | apply below_drew1) | exact HB.out)) hb); have n1_ := Aside0.mk (hbox); have n2_ := Aside0.mk ((by rw [hg]; exact (below_size (by repeat (first | (with_reducible first | exact HB.out | apply below_alloc | apply pw_below_drewN | apply below_drew1) | exact HB.out))) : w.heap.size ≤ gb173)); have n3_ := Aside0.mk ((by rw [hg]; exact (below_size (by repeat (first | (with_reducible first | exact HB.out | apply below_alloc | apply pw_below_drewN | apply below_drew1) | exact HB.out))) : w.heap.size ≤ gb173)); clear HB; have HB := n0_; have BK173 := n1_; have GW173 := n2_; have GE173 := n3_; clear n0_ n1_ n2_ n3_; clear hb hbox hg) | (go_at_call 7; (with_reducible refine (blackboardlaw17_awake.calls  true _ A3.out).mono ?_); rintro e w7 ⟨rfl, hb⟩; have n0_ := Aside0.mk (blk_below (g := gb173) (o := .cells #[.int .i64 a0_0, .int .i64 a0_1, .int .i64 a0_2, .int .i64 a0_3] 23 (0, 0)) (by (with_reducible repeat (first | refine blk_drewN ?_ _ | refine blk_drew ?_ | refine blk_alloc ?_ _)); exact BK173.out) hb); have n1_ := Aside0.mk (below_step (by repeat (first | (with_reducible first | exact HB.out | apply below_alloc | apply pw_below_drewN | apply below_drew1 | refine below_set ?_ GE173.out) | exact HB.out)) hb); clear BK173; clear HB; have BK173 := n0_; have HB := n1_; clear n0_ n1_; (try clear hb); (try clear hb2); (try clear hk); (try clear hi))))
     go_ret
     exact ⟨by first | rfl | (simp [errW_none, errW_some] <;> rfl) | (simp [*, errW_none, errW_some] <;> rfl), by repeat (first | (with_reducible first | exact HB.out | apply below_alloc | apply pw_below_drewN | apply below_drew1 | refine below_set ?_ GE173.out) | exact HB.out)⟩
   ·
    as_aux_lemma =>
     rw [if_neg c5] at H
     have c5b0 : decide (300 < (l1.length : Int)) = false := decide_eq_false c5
     have c5b1 : decide (300 < l1.length) = false := decide_eq_false (by omega)
     clear c5
     replace H := Option.bind_eq_some_iff.mp H
     obtain ⟨⟨t175, t176, t177, t178, t179, t180⟩, A80, H⟩ := H
     replace H : ((blackboardref1_GeoMay.f a0_0 a0_1 a0_2 a0_3).bind fun t182 => (blackboardlaw17_FrontPlays.l0 k l1 t182 (-1) 0 0 a0_0 a0_1 a0_2 a0_3 t175 t176 t177 t178 t179 t180)) = some r := H
     have A8 := Aside0.mk A80
     clear A80
     replace H := Option.bind_eq_some_iff.mp H
     obtain ⟨t182, A90, H⟩ := H
     replace H : (blackboardlaw17_FrontPlays.l0 k l1 t182 (-1) 0 0 a0_0 a0_1 a0_2 a0_3 t175 t176 t177 t178 t179 t180) = some r := H
     have A9 := Aside0.mk A90
     clear A90
     have H' := Aside0.mk H
     clear H
     go_enter Try.func3, Try.ntmps3
     go_wp2_with (first | ((with_reducible refine gate_dst (N := 2) rfl ?_); refine box_event ?hg (N := 2) ?hd (cs := #[.int .i64 a0_0, .int .i64 a0_1, .int .i64 a0_2, .int .i64 a0_3]) (t := 23) ?hr ?_; (case hd => rfl); (case hg => rfl); (case hr => first | (go_simp; done) | (go_simp; rfl)); intro gb173 hg w10 hbox hb; have n0_ := Aside0.mk (below_step (by repeat (first | (with_reducible first | exact HB.out | apply below_alloc | apply pw_below_drewN | apply below_drew1) | exact HB.out)) hb); have n1_ := Aside0.mk (hbox); have n2_ := Aside0.mk ((by rw [hg]; exact (below_size (by repeat (first | (with_reducible first | exact HB.out | apply below_alloc | apply pw_below_drewN | apply below_drew1) | exact HB.out))) : w.heap.size ≤ gb173)); have n3_ := Aside0.mk ((by rw [hg]; exact (below_size (by repeat (first | (with_reducible first | exact HB.out | apply below_alloc | apply pw_below_drewN | apply below_drew1) | exact HB.out))) : w.heap.size ≤ gb173)); clear HB; have HB := n0_; have BK173 := n1_; have GW173 := n2_; have GE173 := n3_; clear n0_ n1_ n2_ n3_; clear hb hbox hg) | (go_at_call 7; (with_reducible refine (blackboardlaw17_awake.calls  true _ A3.out).mono ?_); rintro e w11 ⟨rfl, hb⟩; have n0_ := Aside0.mk (blk_below (g := gb173) (o := .cells #[.int .i64 a0_0, .int .i64 a0_1, .int .i64 a0_2, .int .i64 a0_3] 23 (0, 0)) (by (with_reducible repeat (first | refine blk_drewN ?_ _ | refine blk_drew ?_ | refine blk_alloc ?_ _)); exact BK173.out) hb); have n1_ := Aside0.mk (below_step (by repeat (first | (with_reducible first | exact HB.out | apply below_alloc | apply pw_below_drewN | apply below_drew1 | refine below_set ?_ GE173.out) | exact HB.out)) hb); clear BK173; clear HB; have BK173 := n0_; have HB := n1_; clear n0_ n1_; (try clear hb); (try clear hb2); (try clear hk); (try clear hi); have hcz12_0 : w11.cell? ⟨gb173, 0, none⟩ = some (.int .i64 a0_0) := (blk_cell BK173.out 0).trans rfl; have hcz12_1 : w11.cell? ⟨gb173, 1, none⟩ = some (.int .i64 a0_1) := (blk_cell BK173.out 1).trans rfl; have hcz12_2 : w11.cell? ⟨gb173, 2, none⟩ = some (.int .i64 a0_2) := (blk_cell BK173.out 2).trans rfl; have hcz12_3 : w11.cell? ⟨gb173, 3, none⟩ = some (.int .i64 a0_3) := (blk_cell BK173.out 3).trans rfl; have hfz12_0 := blk_frozen BK173.out 0; have hfz12_1 := blk_frozen BK173.out 1; have hfz12_2 := blk_frozen BK173.out 2; have hfz12_3 := blk_frozen BK173.out 3) | (go_at_call 8; (with_reducible refine (front_New.calls a0_0 a0_1 a0_2 a0_3 t175 t176 t177 t178 t179 t180 w _ ?side1 A8.out).mono ?_); (case side1 => repeat (first | (with_reducible first | exact HB.out | apply below_alloc | apply pw_below_drewN | apply below_drew1 | refine below_set ?_ GE173.out) | exact HB.out)); rintro e w13 ⟨g181, rfl, hi, hb, hb2⟩; have n0_ := Aside0.mk (blk_below (g := gb173) (o := .cells #[.int .i64 a0_0, .int .i64 a0_1, .int .i64 a0_2, .int .i64 a0_3] 23 (0, 0)) (by (with_reducible repeat (first | refine blk_drewN ?_ _ | refine blk_drew ?_ | refine blk_alloc ?_ _)); exact BK173.out) hb2); have n1_ := Aside0.mk (hb); have n2_ := Aside0.mk (hi); have n3_ := Aside0.mk (IsS40.ne_blk hi (blk_below (g := gb173) (o := .cells #[.int .i64 a0_0, .int .i64 a0_1, .int .i64 a0_2, .int .i64 a0_3] 23 (0, 0)) (by (with_reducible repeat (first | refine blk_drewN ?_ _ | refine blk_drew ?_ | refine blk_alloc ?_ _)); exact BK173.out) hb2) (by decide)); have n4_ := Aside0.mk (Ne.symm (IsS40.ne_blk hi (blk_below (g := gb173) (o := .cells #[.int .i64 a0_0, .int .i64 a0_1, .int .i64 a0_2, .int .i64 a0_3] 23 (0, 0)) (by (with_reducible repeat (first | refine blk_drewN ?_ _ | refine blk_drew ?_ | refine blk_alloc ?_ _)); exact BK173.out) hb2) (by decide))); clear BK173; clear HB; have BK173 := n0_; have HB := n1_; have HI181 := n2_; have NB181_173 := n3_; have NB173_181 := n4_; clear n0_ n1_ n2_ n3_ n4_; (try clear hb); (try clear hb2); (try clear hk); (try clear hi); have hnb14 := NB173_181.out; have hnc14 := NB181_173.out; have hcz15_0 : w13.cell? ⟨gb173, 0, none⟩ = some (.int .i64 a0_0) := (blk_cell BK173.out 0).trans rfl; have hcz15_1 : w13.cell? ⟨gb173, 1, none⟩ = some (.int .i64 a0_1) := (blk_cell BK173.out 1).trans rfl; have hcz15_2 : w13.cell? ⟨gb173, 2, none⟩ = some (.int .i64 a0_2) := (blk_cell BK173.out 2).trans rfl; have hcz15_3 : w13.cell? ⟨gb173, 3, none⟩ = some (.int .i64 a0_3) := (blk_cell BK173.out 3).trans rfl; have hfz15_0 := blk_frozen BK173.out 0; have hfz15_1 := blk_frozen BK173.out 1; have hfz15_2 := blk_frozen BK173.out 2; have hfz15_3 := blk_frozen BK173.out 3) | (go_at_call 9; (with_reducible refine (blackboardref1_GeoMay.calls a0_0 a0_1 a0_2 a0_3 t182 _ A9.out).mono ?_); rintro e w16 ⟨rfl, hb⟩; have n0_ := Aside0.mk (blk_below (g := gb173) (o := .cells #[.int .i64 a0_0, .int .i64 a0_1, .int .i64 a0_2, .int .i64 a0_3] 23 (0, 0)) (by (with_reducible repeat (first | refine blk_drewN ?_ _ | refine blk_drew ?_ | refine blk_alloc ?_ _)); exact BK173.out) hb); have n1_ := Aside0.mk (IsS40.below (by repeat (first | (with_reducible first | exact HI181.out | apply IsS40.alloc | apply IsS40.drewN | apply IsS40.drew | apply IsS40.set_0 | apply IsS40.set_1 | apply IsS40.set_2 | apply IsS40.set_3 | apply IsS40.set_4 | apply IsS40.set_5 | refine IsS40.far ?_ NB181_173.out _) | exact HI181.out)) hb); have n2_ := Aside0.mk (below_step (by repeat (first | (with_reducible first | exact HB.out | apply below_alloc | apply pw_below_drewN | apply below_drew1 | refine below_set ?_ (IsS40.ge HI181.out) | refine below_set ?_ GE173.out) | exact HB.out)) hb); clear BK173; clear HI181; clear HB; have BK173 := n0_; have HI181 := n1_; have HB := n2_; clear n0_ n1_ n2_; (try clear hb); (try clear hb2); (try clear hk); (try clear hi)))
     repeat (go_quiet (first | ((with_reducible refine gate_dst (N := 2) rfl ?_); refine box_event ?hg (N := 2) ?hd (cs := #[.int .i64 a0_0, .int .i64 a0_1, .int .i64 a0_2, .int .i64 a0_3]) (t := 23) ?hr ?_; (case hd => rfl); (case hg => rfl); (case hr => first | (go_simp; done) | (go_simp; rfl)); intro gb173 hg w10 hbox hb; have n0_ := Aside0.mk (below_step (by repeat (first | (with_reducible first | exact HB.out | apply below_alloc | apply pw_below_drewN | apply below_drew1) | exact HB.out)) hb); have n1_ := Aside0.mk (hbox); have n2_ := Aside0.mk ((by rw [hg]; exact (below_size (by repeat (first | (with_reducible first | exact HB.out | apply below_alloc | apply pw_below_drewN | apply below_drew1) | exact HB.out))) : w.heap.size ≤ gb173)); have n3_ := Aside0.mk ((by rw [hg]; exact (below_size (by repeat (first | (with_reducible first | exact HB.out | apply below_alloc | apply pw_below_drewN | apply below_drew1) | exact HB.out))) : w.heap.size ≤ gb173)); clear HB; have HB := n0_; have BK173 := n1_; have GW173 := n2_; have GE173 := n3_; clear n0_ n1_ n2_ n3_; clear hb hbox hg) | (go_at_call 7; (with_reducible refine (blackboardlaw17_awake.calls  true _ A3.out).mono ?_); rintro e w11 ⟨rfl, hb⟩; have n0_ := Aside0.mk (blk_below (g := gb173) (o := .cells #[.int .i64 a0_0, .int .i64 a0_1, .int .i64 a0_2, .int .i64 a0_3] 23 (0, 0)) (by (with_reducible repeat (first | refine blk_drewN ?_ _ | refine blk_drew ?_ | refine blk_alloc ?_ _)); exact BK173.out) hb); have n1_ := Aside0.mk (below_step (by repeat (first | (with_reducible first | exact HB.out | apply below_alloc | apply pw_below_drewN | apply below_drew1 | refine below_set ?_ GE173.out) | exact HB.out)) hb); clear BK173; clear HB; have BK173 := n0_; have HB := n1_; clear n0_ n1_; (try clear hb); (try clear hb2); (try clear hk); (try clear hi); have hcz12_0 : w11.cell? ⟨gb173, 0, none⟩ = some (.int .i64 a0_0) := (blk_cell BK173.out 0).trans rfl; have hcz12_1 : w11.cell? ⟨gb173, 1, none⟩ = some (.int .i64 a0_1) := (blk_cell BK173.out 1).trans rfl; have hcz12_2 : w11.cell? ⟨gb173, 2, none⟩ = some (.int .i64 a0_2) := (blk_cell BK173.out 2).trans rfl; have hcz12_3 : w11.cell? ⟨gb173, 3, none⟩ = some (.int .i64 a0_3) := (blk_cell BK173.out 3).trans rfl; have hfz12_0 := blk_frozen BK173.out 0; have hfz12_1 := blk_frozen BK173.out 1; have hfz12_2 := blk_frozen BK173.out 2; have hfz12_3 := blk_frozen BK173.out 3) | (go_at_call 8; (with_reducible refine (front_New.calls a0_0 a0_1 a0_2 a0_3 t175 t176 t177 t178 t179 t180 w _ ?side1 A8.out).mono ?_); (case side1 => repeat (first | (with_reducible first | exact HB.out | apply below_alloc | apply pw_below_drewN | apply below_drew1 | refine below_set ?_ GE173.out) | exact HB.out)); rintro e w13 ⟨g181, rfl, hi, hb, hb2⟩; have n0_ := Aside0.mk (blk_below (g := gb173) (o := .cells #[.int .i64 a0_0, .int .i64 a0_1, .int .i64 a0_2, .int .i64 a0_3] 23 (0, 0)) (by (with_reducible repeat (first | refine blk_drewN ?_ _ | refine blk_drew ?_ | refine blk_alloc ?_ _)); exact BK173.out) hb2); have n1_ := Aside0.mk (hb); have n2_ := Aside0.mk (hi); have n3_ := Aside0.mk (IsS40.ne_blk hi (blk_below (g := gb173) (o := .cells #[.int .i64 a0_0, .int .i64 a0_1, .int .i64 a0_2, .int .i64 a0_3] 23 (0, 0)) (by (with_reducible repeat (first | refine blk_drewN ?_ _ | refine blk_drew ?_ | refine blk_alloc ?_ _)); exact BK173.out) hb2) (by decide)); have n4_ := Aside0.mk (Ne.symm (IsS40.ne_blk hi (blk_below (g := gb173) (o := .cells #[.int .i64 a0_0, .int .i64 a0_1, .int .i64 a0_2, .int .i64 a0_3] 23 (0, 0)) (by (with_reducible repeat (first | refine blk_drewN ?_ _ | refine blk_drew ?_ | refine blk_alloc ?_ _)); exact BK173.out) hb2) (by decide))); clear BK173; clear HB; have BK173 := n0_; have HB := n1_; have HI181 := n2_; have NB181_173 := n3_; have NB173_181 := n4_; clear n0_ n1_ n2_ n3_ n4_; (try clear hb); (try clear hb2); (try clear hk); (try clear hi); have hnb14 := NB173_181.out; have hnc14 := NB181_173.out; have hcz15_0 : w13.cell? ⟨gb173, 0, none⟩ = some (.int .i64 a0_0) := (blk_cell BK173.out 0).trans rfl; have hcz15_1 : w13.cell? ⟨gb173, 1, none⟩ = some (.int .i64 a0_1) := (blk_cell BK173.out 1).trans rfl; have hcz15_2 : w13.cell? ⟨gb173, 2, none⟩ = some (.int .i64 a0_2) := (blk_cell BK173.out 2).trans rfl; have hcz15_3 : w13.cell? ⟨gb173, 3, none⟩ = some (.int .i64 a0_3) := (blk_cell BK173.out 3).trans rfl; have hfz15_0 := blk_frozen BK173.out 0; have hfz15_1 := blk_frozen BK173.out 1; have hfz15_2 := blk_frozen BK173.out 2; have hfz15_3 := blk_frozen BK173.out 3) | (go_at_call 9; (with_reducible refine (blackboardref1_GeoMay.calls a0_0 a0_1 a0_2 a0_3 t182 _ A9.out).mono ?_); rintro e w16 ⟨rfl, hb⟩; have n0_ := Aside0.mk (blk_below (g := gb173) (o := .cells #[.int .i64 a0_0, .int .i64 a0_1, .int .i64 a0_2, .int .i64 a0_3] 23 (0, 0)) (by (with_reducible repeat (first | refine blk_drewN ?_ _ | refine blk_drew ?_ | refine blk_alloc ?_ _)); exact BK173.out) hb); have n1_ := Aside0.mk (IsS40.below (by repeat (first | (with_reducible first | exact HI181.out | apply IsS40.alloc | apply IsS40.drewN | apply IsS40.drew | apply IsS40.set_0 | apply IsS40.set_1 | apply IsS40.set_2 | apply IsS40.set_3 | apply IsS40.set_4 | apply IsS40.set_5 | refine IsS40.far ?_ NB181_173.out _) | exact HI181.out)) hb); have n2_ := Aside0.mk (below_step (by repeat (first | (with_reducible first | exact HB.out | apply below_alloc | apply pw_below_drewN | apply below_drew1 | refine below_set ?_ (IsS40.ge HI181.out) | refine below_set ?_ GE173.out) | exact HB.out)) hb); clear BK173; clear HI181; clear HB; have BK173 := n0_; have HI181 := n1_; have HB := n2_; clear n0_ n1_ n2_; (try clear hb); (try clear hb2); (try clear hk); (try clear hi))); try go_wp2_with (first | ((with_reducible refine gate_dst (N := 2) rfl ?_); refine box_event ?hg (N := 2) ?hd (cs := #[.int .i64 a0_0, .int .i64 a0_1, .int .i64 a0_2, .int .i64 a0_3]) (t := 23) ?hr ?_; (case hd => rfl); (case hg => rfl); (case hr => first | (go_simp; done) | (go_simp; rfl)); intro gb173 hg w10 hbox hb; have n0_ := Aside0.mk (below_step (by repeat (first | (with_reducible first | exact HB.out | apply below_alloc | apply pw_below_drewN | apply below_drew1) | exact HB.out)) hb); have n1_ := Aside0.mk (hbox); have n2_ := Aside0.mk ((by rw [hg]; exact (below_size (by repeat (first | (with_reducible first | exact HB.out | apply below_alloc | apply pw_below_drewN | apply below_drew1) | exact HB.out))) : w.heap.size ≤ gb173)); have n3_ := Aside0.mk ((by rw [hg]; exact (below_size (by repeat (first | (with_reducible first | exact HB.out | apply below_alloc | apply pw_below_drewN | apply below_drew1) | exact HB.out))) : w.heap.size ≤ gb173)); clear HB; have HB := n0_; have BK173 := n1_; have GW173 := n2_; have GE173 := n3_; clear n0_ n1_ n2_ n3_; clear hb hbox hg) | (go_at_call 7; (with_reducible refine (blackboardlaw17_awake.calls  true _ A3.out).mono ?_); rintro e w11 ⟨rfl, hb⟩; have n0_ := Aside0.mk (blk_below (g := gb173) (o := .cells #[.int .i64 a0_0, .int .i64 a0_1, .int .i64 a0_2, .int .i64 a0_3] 23 (0, 0)) (by (with_reducible repeat (first | refine blk_drewN ?_ _ | refine blk_drew ?_ | refine blk_alloc ?_ _)); exact BK173.out) hb); have n1_ := Aside0.mk (below_step (by repeat (first | (with_reducible first | exact HB.out | apply below_alloc | apply pw_below_drewN | apply below_drew1 | refine below_set ?_ GE173.out) | exact HB.out)) hb); clear BK173; clear HB; have BK173 := n0_; have HB := n1_; clear n0_ n1_; (try clear hb); (try clear hb2); (try clear hk); (try clear hi); have hcz12_0 : w11.cell? ⟨gb173, 0, none⟩ = some (.int .i64 a0_0) := (blk_cell BK173.out 0).trans rfl; have hcz12_1 : w11.cell? ⟨gb173, 1, none⟩ = some (.int .i64 a0_1) := (blk_cell BK173.out 1).trans rfl; have hcz12_2 : w11.cell? ⟨gb173, 2, none⟩ = some (.int .i64 a0_2) := (blk_cell BK173.out 2).trans rfl; have hcz12_3 : w11.cell? ⟨gb173, 3, none⟩ = some (.int .i64 a0_3) := (blk_cell BK173.out 3).trans rfl; have hfz12_0 := blk_frozen BK173.out 0; have hfz12_1 := blk_frozen BK173.out 1; have hfz12_2 := blk_frozen BK173.out 2; have hfz12_3 := blk_frozen BK173.out 3) | (go_at_call 8; (with_reducible refine (front_New.calls a0_0 a0_1 a0_2 a0_3 t175 t176 t177 t178 t179 t180 w _ ?side1 A8.out).mono ?_); (case side1 => repeat (first | (with_reducible first | exact HB.out | apply below_alloc | apply pw_below_drewN | apply below_drew1 | refine below_set ?_ GE173.out) | exact HB.out)); rintro e w13 ⟨g181, rfl, hi, hb, hb2⟩; have n0_ := Aside0.mk (blk_below (g := gb173) (o := .cells #[.int .i64 a0_0, .int .i64 a0_1, .int .i64 a0_2, .int .i64 a0_3] 23 (0, 0)) (by (with_reducible repeat (first | refine blk_drewN ?_ _ | refine blk_drew ?_ | refine blk_alloc ?_ _)); exact BK173.out) hb2); have n1_ := Aside0.mk (hb); have n2_ := Aside0.mk (hi); have n3_ := Aside0.mk (IsS40.ne_blk hi (blk_below (g := gb173) (o := .cells #[.int .i64 a0_0, .int .i64 a0_1, .int .i64 a0_2, .int .i64 a0_3] 23 (0, 0)) (by (with_reducible repeat (first | refine blk_drewN ?_ _ | refine blk_drew ?_ | refine blk_alloc ?_ _)); exact BK173.out) hb2) (by decide)); have n4_ := Aside0.mk (Ne.symm (IsS40.ne_blk hi (blk_below (g := gb173) (o := .cells #[.int .i64 a0_0, .int .i64 a0_1, .int .i64 a0_2, .int .i64 a0_3] 23 (0, 0)) (by (with_reducible repeat (first | refine blk_drewN ?_ _ | refine blk_drew ?_ | refine blk_alloc ?_ _)); exact BK173.out) hb2) (by decide))); clear BK173; clear HB; have BK173 := n0_; have HB := n1_; have HI181 := n2_; have NB181_173 := n3_; have NB173_181 := n4_; clear n0_ n1_ n2_ n3_ n4_; (try clear hb); (try clear hb2); (try clear hk); (try clear hi); have hnb14 := NB173_181.out; have hnc14 := NB181_173.out; have hcz15_0 : w13.cell? ⟨gb173, 0, none⟩ = some (.int .i64 a0_0) := (blk_cell BK173.out 0).trans rfl; have hcz15_1 : w13.cell? ⟨gb173, 1, none⟩ = some (.int .i64 a0_1) := (blk_cell BK173.out 1).trans rfl; have hcz15_2 : w13.cell? ⟨gb173, 2, none⟩ = some (.int .i64 a0_2) := (blk_cell BK173.out 2).trans rfl; have hcz15_3 : w13.cell? ⟨gb173, 3, none⟩ = some (.int .i64 a0_3) := (blk_cell BK173.out 3).trans rfl; have hfz15_0 := blk_frozen BK173.out 0; have hfz15_1 := blk_frozen BK173.out 1; have hfz15_2 := blk_frozen BK173.out 2; have hfz15_3 := blk_frozen BK173.out 3) | (go_at_call 9; (with_reducible refine (blackboardref1_GeoMay.calls a0_0 a0_1 a0_2 a0_3 t182 _ A9.out).mono ?_); rintro e w16 ⟨rfl, hb⟩; have n0_ := Aside0.mk (blk_below (g := gb173) (o := .cells #[.int .i64 a0_0, .int .i64 a0_1, .int .i64 a0_2, .int .i64 a0_3] 23 (0, 0)) (by (with_reducible repeat (first | refine blk_drewN ?_ _ | refine blk_drew ?_ | refine blk_alloc ?_ _)); exact BK173.out) hb); have n1_ := Aside0.mk (IsS40.below (by repeat (first | (with_reducible first | exact HI181.out | apply IsS40.alloc | apply IsS40.drewN | apply IsS40.drew | apply IsS40.set_0 | apply IsS40.set_1 | apply IsS40.set_2 | apply IsS40.set_3 | apply IsS40.set_4 | apply IsS40.set_5 | refine IsS40.far ?_ NB181_173.out _) | exact HI181.out)) hb); have n2_ := Aside0.mk (below_step (by repeat (first | (with_reducible first | exact HB.out | apply below_alloc | apply pw_below_drewN | apply below_drew1 | refine below_set ?_ (IsS40.ge HI181.out) | refine below_set ?_ GE173.out) | exact HB.out)) hb); clear BK173; clear HI181; clear HB; have BK173 := n0_; have HI181 := n1_; have HB := n2_; clear n0_ n1_ n2_; (try clear hb); (try clear hb2); (try clear hk); (try clear hi))))
     go_loopg [7, 8, 9] k (fun kq v7 v8 v9 w' => ∃ (x7_1 : Int) (x8_1 : Int) (x9_1 : Int) (x182000_1 : Int) (x182001_1 : Int) (x182002_1 : Int) (x182003_1 : Int) (x182004_1 : Int) (x182005_1 : Int), v7 = .int .i64 x7_1 ∧ v8 = .int .i64 x8_1 ∧ v9 = .int .i64 x9_1 ∧ Aside0 (blackboardlaw17_FrontPlays.l0 kq l1 t182 x7_1 x8_1 x9_1 a0_0 a0_1 a0_2 a0_3 x182000_1 x182001_1 x182002_1 x182003_1 x182004_1 x182005_1 = some r) ∧ Aside0 (kq ≤ k) ∧ Aside0 (w'.heap[gb173]? = some (.cells #[.int .i64 a0_0, .int .i64 a0_1, .int .i64 a0_2, .int .i64 a0_3] 23 (0, 0))) ∧ Aside0 (IsS40 w w' g181 x182000_1 x182001_1 x182002_1 x182003_1 x182004_1 x182005_1) ∧ Aside0 (Below w.heap.size w w'))
     case atStart => exact ⟨((-1)), (0), (0), (t175), (t176), (t177), (t178), (t179), (t180), (by first | rfl | (simp; done) | (simp [*]; done)), (by first | rfl | (simp; done) | (simp [*]; done)), (by first | rfl | (simp; done) | (simp [*]; done)), H', ⟨Nat.le_refl _⟩, ⟨by (with_reducible repeat (first | refine blk_drewN ?_ _ | refine blk_drew ?_ | refine blk_alloc ?_ _)); exact BK173.out⟩, ⟨by repeat (first | (with_reducible first | exact HI181.out | apply IsS40.alloc | apply IsS40.drewN | apply IsS40.drew | apply IsS40.set_0 | apply IsS40.set_1 | apply IsS40.set_2 | apply IsS40.set_3 | apply IsS40.set_4 | apply IsS40.set_5 | refine IsS40.far ?_ NB181_173.out _) | exact HI181.out)⟩, ⟨by repeat (first | (with_reducible first | exact HB.out | apply below_alloc | apply pw_below_drewN | apply below_drew1 | refine below_set ?_ (IsS40.ge HI181.out) | refine below_set ?_ GE173.out) | exact HB.out)⟩⟩
     case round =>
      clear H'
      try clear c1
      try clear p2
      try clear c3
      try clear c4
      try clear c5
      try clear c5b0
      try clear c5b1
      try clear c14
      try clear hcz12_0
      try clear hcz12_1
      try clear hcz12_2
      try clear hcz12_3
      try clear hcz15_0
      try clear hcz15_1
      try clear hcz15_2
      try clear hcz15_3
      try clear hfz12_0
      try clear hfz12_1
      try clear hfz12_2
      try clear hfz12_3
      try clear hfz15_0
      try clear hfz15_1
      try clear hfz15_2
      try clear hfz15_3
      obtain ⟨x7_1, x8_1, x9_1, x182000_1, x182001_1, x182002_1, x182003_1, x182004_1, x182005_1, rfl, rfl, rfl, HA, HK1, BK173, HI181, HB⟩ := hrel
      cases gk with
      | zero => exact absurd HA.out (by simp [blackboardlaw17_FrontPlays.l0])
      | succ k1 =>
       have H := HA.out
       clear HA
       simp only [blackboardlaw17_FrontPlays.l0] at H
       by_cases c17 : x9_1 < (l1.length : Int)
       ·
        as_aux_lemma =>
         rw [if_pos c17] at H
         have c17b0 : decide (x9_1 < (l1.length : Int)) = true := decide_eq_true c17
         clear c17
         by_cases c18 : 0 ≤ x9_1
         ·
          as_aux_lemma =>
           rw [if_pos c18] at H
           have c18b0 : decide (0 ≤ x9_1) = true := decide_eq_true c18
           clear c18
           have HC19 := Aside0.mk H
           clear H
           have p183 : 0 ≤ (x9_1 : Int) := of_decide_eq_true (by first | (with_reducible assumption) | assumption)
           have q183 : x9_1 < (l1.length : Int) := of_decide_eq_true (by first | (with_reducible assumption) | assumption)
           obtain ⟨ad183, e183, hx183_0, hx183_1, hx183_2⟩ := at_T30 HR1.out x9_1 p183 q183
           cases e183
           replace hx183_0 := (HB.out.cell (World.block_lt_of_cell? w _ hx183_0)).trans hx183_0
           replace hx183_1 := (HB.out.cell (World.block_lt_of_cell? w _ hx183_1)).trans hx183_1
           replace hx183_2 := (HB.out.cell (World.block_lt_of_cell? w _ hx183_2)).trans hx183_2
           replace p183 := eq_true p183
           replace q183 := eq_true q183
           go_upto_block 2 with (first | ((with_reducible refine gate_dst (N := 10) rfl ?_); refine box_event ?hg (N := 10) ?hd (cs := #[.int .i64 0, .int .i64 0, .int .i64 0]) (t := 30) ?hr ?_; (case hd => rfl); (case hg => rfl); (case hr => first | (go_simp; done) | (go_simp; rfl)); intro gb184 hg w20 hbox hb; have n0_ := Aside0.mk (blk_below (g := gb173) (o := .cells #[.int .i64 a0_0, .int .i64 a0_1, .int .i64 a0_2, .int .i64 a0_3] 23 (0, 0)) (by (with_reducible repeat (first | refine blk_drewN ?_ _ | refine blk_drew ?_ | refine blk_alloc ?_ _)); exact BK173.out) hb); have n1_ := Aside0.mk (IsS40.below (by repeat (first | (with_reducible first | exact HI181.out | apply IsS40.alloc | apply IsS40.drewN | apply IsS40.drew | apply IsS40.set_0 | apply IsS40.set_1 | apply IsS40.set_2 | apply IsS40.set_3 | apply IsS40.set_4 | apply IsS40.set_5 | refine IsS40.far ?_ NB181_173.out _) | exact HI181.out)) hb); have n2_ := Aside0.mk (below_step (by repeat (first | (with_reducible first | exact HB.out | apply below_alloc | apply pw_below_drewN | apply below_drew1 | refine below_set ?_ (IsS40.ge HI181.out) | refine below_set ?_ GE173.out) | exact HB.out)) hb); have n3_ := Aside0.mk (hbox); have n4_ := Aside0.mk ((by rw [hg]; exact (below_size (by repeat (first | (with_reducible first | exact HB.out | apply below_alloc | apply pw_below_drewN | apply below_drew1 | refine below_set ?_ (IsS40.ge HI181.out) | refine below_set ?_ GE173.out) | exact HB.out))) : w.heap.size ≤ gb184)); have n5_ := Aside0.mk ((by rw [hg]; exact (below_size (by repeat (first | (with_reducible first | exact HB.out | apply below_alloc | apply pw_below_drewN | apply below_drew1 | refine below_set ?_ (IsS40.ge HI181.out) | refine below_set ?_ GE173.out) | exact HB.out))) : w.heap.size ≤ gb184)); have n6_ := Aside0.mk ((by rw [hg]; exact Nat.ne_of_lt (blk_lt (g := gb173) (o := .cells #[.int .i64 a0_0, .int .i64 a0_1, .int .i64 a0_2, .int .i64 a0_3] 23 (0, 0)) (by (with_reducible repeat (first | refine blk_drewN ?_ _ | refine blk_drew ?_ | refine blk_alloc ?_ _)); exact BK173.out)) : gb173 ≠ gb184)); have n7_ := Aside0.mk ((by rw [hg]; exact Nat.ne_of_gt (blk_lt (g := gb173) (o := .cells #[.int .i64 a0_0, .int .i64 a0_1, .int .i64 a0_2, .int .i64 a0_3] 23 (0, 0)) (by (with_reducible repeat (first | refine blk_drewN ?_ _ | refine blk_drew ?_ | refine blk_alloc ?_ _)); exact BK173.out)) : gb184 ≠ gb173)); have n8_ := Aside0.mk ((by rw [hg]; exact Nat.ne_of_lt (IsS40.lt (show IsS40 w _ g181 x182000_1 x182001_1 x182002_1 x182003_1 x182004_1 x182005_1 from by repeat (first | (with_reducible first | exact HI181.out | apply IsS40.alloc | apply IsS40.drewN | apply IsS40.drew | apply IsS40.set_0 | apply IsS40.set_1 | apply IsS40.set_2 | apply IsS40.set_3 | apply IsS40.set_4 | apply IsS40.set_5 | refine IsS40.far ?_ NB181_173.out _) | exact HI181.out))) : g181 ≠ gb184)); have n9_ := Aside0.mk ((by rw [hg]; exact Nat.ne_of_gt (IsS40.lt (show IsS40 w _ g181 x182000_1 x182001_1 x182002_1 x182003_1 x182004_1 x182005_1 from by repeat (first | (with_reducible first | exact HI181.out | apply IsS40.alloc | apply IsS40.drewN | apply IsS40.drew | apply IsS40.set_0 | apply IsS40.set_1 | apply IsS40.set_2 | apply IsS40.set_3 | apply IsS40.set_4 | apply IsS40.set_5 | refine IsS40.far ?_ NB181_173.out _) | exact HI181.out))) : gb184 ≠ g181)); clear BK173; clear HI181; clear HB; have BK173 := n0_; have HI181 := n1_; have HB := n2_; have BK184 := n3_; have GW184 := n4_; have GE184 := n5_; have NB173_184 := n6_; have NB184_173 := n7_; have NB181_184 := n8_; have NB184_181 := n9_; clear n0_ n1_ n2_ n3_ n4_ n5_ n6_ n7_ n8_ n9_; clear hb hbox hg; have hnb21 := NB184_173.out; have hnc21 := NB173_184.out; have hnb22 := NB184_181.out; have hnc22 := NB181_184.out; have hcz23_0 : w20.cell? ⟨gb184, 0, none⟩ = some (.int .i64 0) := (blk_cell BK184.out 0).trans rfl; have hcz23_1 : w20.cell? ⟨gb184, 1, none⟩ = some (.int .i64 0) := (blk_cell BK184.out 1).trans rfl; have hcz23_2 : w20.cell? ⟨gb184, 2, none⟩ = some (.int .i64 0) := (blk_cell BK184.out 2).trans rfl; have hfz23_0 := blk_frozen BK184.out 0; have hfz23_1 := blk_frozen BK184.out 1; have hfz23_2 := blk_frozen BK184.out 2))
           repeat (go_quiet (first | ((with_reducible refine gate_dst (N := 10) rfl ?_); refine box_event ?hg (N := 10) ?hd (cs := #[.int .i64 0, .int .i64 0, .int .i64 0]) (t := 30) ?hr ?_; (case hd => rfl); (case hg => rfl); (case hr => first | (go_simp; done) | (go_simp; rfl)); intro gb184 hg w20 hbox hb; have n0_ := Aside0.mk (blk_below (g := gb173) (o := .cells #[.int .i64 a0_0, .int .i64 a0_1, .int .i64 a0_2, .int .i64 a0_3] 23 (0, 0)) (by (with_reducible repeat (first | refine blk_drewN ?_ _ | refine blk_drew ?_ | refine blk_alloc ?_ _)); exact BK173.out) hb); have n1_ := Aside0.mk (IsS40.below (by repeat (first | (with_reducible first | exact HI181.out | apply IsS40.alloc | apply IsS40.drewN | apply IsS40.drew | apply IsS40.set_0 | apply IsS40.set_1 | apply IsS40.set_2 | apply IsS40.set_3 | apply IsS40.set_4 | apply IsS40.set_5 | refine IsS40.far ?_ NB181_173.out _) | exact HI181.out)) hb); have n2_ := Aside0.mk (below_step (by repeat (first | (with_reducible first | exact HB.out | apply below_alloc | apply pw_below_drewN | apply below_drew1 | refine below_set ?_ (IsS40.ge HI181.out) | refine below_set ?_ GE173.out) | exact HB.out)) hb); have n3_ := Aside0.mk (hbox); have n4_ := Aside0.mk ((by rw [hg]; exact (below_size (by repeat (first | (with_reducible first | exact HB.out | apply below_alloc | apply pw_below_drewN | apply below_drew1 | refine below_set ?_ (IsS40.ge HI181.out) | refine below_set ?_ GE173.out) | exact HB.out))) : w.heap.size ≤ gb184)); have n5_ := Aside0.mk ((by rw [hg]; exact (below_size (by repeat (first | (with_reducible first | exact HB.out | apply below_alloc | apply pw_below_drewN | apply below_drew1 | refine below_set ?_ (IsS40.ge HI181.out) | refine below_set ?_ GE173.out) | exact HB.out))) : w.heap.size ≤ gb184)); have n6_ := Aside0.mk ((by rw [hg]; exact Nat.ne_of_lt (blk_lt (g := gb173) (o := .cells #[.int .i64 a0_0, .int .i64 a0_1, .int .i64 a0_2, .int .i64 a0_3] 23 (0, 0)) (by (with_reducible repeat (first | refine blk_drewN ?_ _ | refine blk_drew ?_ | refine blk_alloc ?_ _)); exact BK173.out)) : gb173 ≠ gb184)); have n7_ := Aside0.mk ((by rw [hg]; exact Nat.ne_of_gt (blk_lt (g := gb173) (o := .cells #[.int .i64 a0_0, .int .i64 a0_1, .int .i64 a0_2, .int .i64 a0_3] 23 (0, 0)) (by (with_reducible repeat (first | refine blk_drewN ?_ _ | refine blk_drew ?_ | refine blk_alloc ?_ _)); exact BK173.out)) : gb184 ≠ gb173)); have n8_ := Aside0.mk ((by rw [hg]; exact Nat.ne_of_lt (IsS40.lt (show IsS40 w _ g181 x182000_1 x182001_1 x182002_1 x182003_1 x182004_1 x182005_1 from by repeat (first | (with_reducible first | exact HI181.out | apply IsS40.alloc | apply IsS40.drewN | apply IsS40.drew | apply IsS40.set_0 | apply IsS40.set_1 | apply IsS40.set_2 | apply IsS40.set_3 | apply IsS40.set_4 | apply IsS40.set_5 | refine IsS40.far ?_ NB181_173.out _) | exact HI181.out))) : g181 ≠ gb184)); have n9_ := Aside0.mk ((by rw [hg]; exact Nat.ne_of_gt (IsS40.lt (show IsS40 w _ g181 x182000_1 x182001_1 x182002_1 x182003_1 x182004_1 x182005_1 from by repeat (first | (with_reducible first | exact HI181.out | apply IsS40.alloc | apply IsS40.drewN | apply IsS40.drew | apply IsS40.set_0 | apply IsS40.set_1 | apply IsS40.set_2 | apply IsS40.set_3 | apply IsS40.set_4 | apply IsS40.set_5 | refine IsS40.far ?_ NB181_173.out _) | exact HI181.out))) : gb184 ≠ g181)); clear BK173; clear HI181; clear HB; have BK173 := n0_; have HI181 := n1_; have HB := n2_; have BK184 := n3_; have GW184 := n4_; have GE184 := n5_; have NB173_184 := n6_; have NB184_173 := n7_; have NB181_184 := n8_; have NB184_181 := n9_; clear n0_ n1_ n2_ n3_ n4_ n5_ n6_ n7_ n8_ n9_; clear hb hbox hg; have hnb21 := NB184_173.out; have hnc21 := NB173_184.out; have hnb22 := NB184_181.out; have hnc22 := NB181_184.out; have hcz23_0 : w20.cell? ⟨gb184, 0, none⟩ = some (.int .i64 0) := (blk_cell BK184.out 0).trans rfl; have hcz23_1 : w20.cell? ⟨gb184, 1, none⟩ = some (.int .i64 0) := (blk_cell BK184.out 1).trans rfl; have hcz23_2 : w20.cell? ⟨gb184, 2, none⟩ = some (.int .i64 0) := (blk_cell BK184.out 2).trans rfl; have hfz23_0 := blk_frozen BK184.out 0; have hfz23_1 := blk_frozen BK184.out 1; have hfz23_2 := blk_frozen BK184.out 2)); go_upto_block 2 with (first | ((with_reducible refine gate_dst (N := 10) rfl ?_); refine box_event ?hg (N := 10) ?hd (cs := #[.int .i64 0, .int .i64 0, .int .i64 0]) (t := 30) ?hr ?_; (case hd => rfl); (case hg => rfl); (case hr => first | (go_simp; done) | (go_simp; rfl)); intro gb184 hg w20 hbox hb; have n0_ := Aside0.mk (blk_below (g := gb173) (o := .cells #[.int .i64 a0_0, .int .i64 a0_1, .int .i64 a0_2, .int .i64 a0_3] 23 (0, 0)) (by (with_reducible repeat (first | refine blk_drewN ?_ _ | refine blk_drew ?_ | refine blk_alloc ?_ _)); exact BK173.out) hb); have n1_ := Aside0.mk (IsS40.below (by repeat (first | (with_reducible first | exact HI181.out | apply IsS40.alloc | apply IsS40.drewN | apply IsS40.drew | apply IsS40.set_0 | apply IsS40.set_1 | apply IsS40.set_2 | apply IsS40.set_3 | apply IsS40.set_4 | apply IsS40.set_5 | refine IsS40.far ?_ NB181_173.out _) | exact HI181.out)) hb); have n2_ := Aside0.mk (below_step (by repeat (first | (with_reducible first | exact HB.out | apply below_alloc | apply pw_below_drewN | apply below_drew1 | refine below_set ?_ (IsS40.ge HI181.out) | refine below_set ?_ GE173.out) | exact HB.out)) hb); have n3_ := Aside0.mk (hbox); have n4_ := Aside0.mk ((by rw [hg]; exact (below_size (by repeat (first | (with_reducible first | exact HB.out | apply below_alloc | apply pw_below_drewN | apply below_drew1 | refine below_set ?_ (IsS40.ge HI181.out) | refine below_set ?_ GE173.out) | exact HB.out))) : w.heap.size ≤ gb184)); have n5_ := Aside0.mk ((by rw [hg]; exact (below_size (by repeat (first | (with_reducible first | exact HB.out | apply below_alloc | apply pw_below_drewN | apply below_drew1 | refine below_set ?_ (IsS40.ge HI181.out) | refine below_set ?_ GE173.out) | exact HB.out))) : w.heap.size ≤ gb184)); have n6_ := Aside0.mk ((by rw [hg]; exact Nat.ne_of_lt (blk_lt (g := gb173) (o := .cells #[.int .i64 a0_0, .int .i64 a0_1, .int .i64 a0_2, .int .i64 a0_3] 23 (0, 0)) (by (with_reducible repeat (first | refine blk_drewN ?_ _ | refine blk_drew ?_ | refine blk_alloc ?_ _)); exact BK173.out)) : gb173 ≠ gb184)); have n7_ := Aside0.mk ((by rw [hg]; exact Nat.ne_of_gt (blk_lt (g := gb173) (o := .cells #[.int .i64 a0_0, .int .i64 a0_1, .int .i64 a0_2, .int .i64 a0_3] 23 (0, 0)) (by (with_reducible repeat (first | refine blk_drewN ?_ _ | refine blk_drew ?_ | refine blk_alloc ?_ _)); exact BK173.out)) : gb184 ≠ gb173)); have n8_ := Aside0.mk ((by rw [hg]; exact Nat.ne_of_lt (IsS40.lt (show IsS40 w _ g181 x182000_1 x182001_1 x182002_1 x182003_1 x182004_1 x182005_1 from by repeat (first | (with_reducible first | exact HI181.out | apply IsS40.alloc | apply IsS40.drewN | apply IsS40.drew | apply IsS40.set_0 | apply IsS40.set_1 | apply IsS40.set_2 | apply IsS40.set_3 | apply IsS40.set_4 | apply IsS40.set_5 | refine IsS40.far ?_ NB181_173.out _) | exact HI181.out))) : g181 ≠ gb184)); have n9_ := Aside0.mk ((by rw [hg]; exact Nat.ne_of_gt (IsS40.lt (show IsS40 w _ g181 x182000_1 x182001_1 x182002_1 x182003_1 x182004_1 x182005_1 from by repeat (first | (with_reducible first | exact HI181.out | apply IsS40.alloc | apply IsS40.drewN | apply IsS40.drew | apply IsS40.set_0 | apply IsS40.set_1 | apply IsS40.set_2 | apply IsS40.set_3 | apply IsS40.set_4 | apply IsS40.set_5 | refine IsS40.far ?_ NB181_173.out _) | exact HI181.out))) : gb184 ≠ g181)); clear BK173; clear HI181; clear HB; have BK173 := n0_; have HI181 := n1_; have HB := n2_; have BK184 := n3_; have GW184 := n4_; have GE184 := n5_; have NB173_184 := n6_; have NB184_173 := n7_; have NB181_184 := n8_; have NB184_181 := n9_; clear n0_ n1_ n2_ n3_ n4_ n5_ n6_ n7_ n8_ n9_; clear hb hbox hg; have hnb21 := NB184_173.out; have hnc21 := NB173_184.out; have hnb22 := NB184_181.out; have hnc22 := NB181_184.out; have hcz23_0 : w20.cell? ⟨gb184, 0, none⟩ = some (.int .i64 0) := (blk_cell BK184.out 0).trans rfl; have hcz23_1 : w20.cell? ⟨gb184, 1, none⟩ = some (.int .i64 0) := (blk_cell BK184.out 1).trans rfl; have hcz23_2 : w20.cell? ⟨gb184, 2, none⟩ = some (.int .i64 0) := (blk_cell BK184.out 2).trans rfl; have hfz23_0 := blk_frozen BK184.out 0; have hfz23_1 := blk_frozen BK184.out 1; have hfz23_2 := blk_frozen BK184.out 2)))
           (try simp only [Act.put, List.setIfInBounds_toArray, List.set_cons_zero, List.set_cons_succ])
           go_cut [7, 8] (fun v7 v8 wc => ∃ (kq : Nat) (x7_18 : Int) (x8_18 : Int) (x182000_18 : Int) (x182001_18 : Int) (x182002_18 : Int) (x182003_18 : Int) (x182004_18 : Int) (x182005_18 : Int), v7 = .int .i64 x7_18 ∧ v8 = .int .i64 x8_18 ∧ Aside0 (blackboardlaw17_FrontPlays.j7 kq l1 t182 x7_18 x8_18 x9_1 a0_0 a0_1 a0_2 a0_3 x182000_18 x182001_18 x182002_18 x182003_18 x182004_18 x182005_18 = some r) ∧ Aside0 (kq ≤ k1) ∧ Aside0 (wc.heap[gb173]? = some (.cells #[.int .i64 a0_0, .int .i64 a0_1, .int .i64 a0_2, .int .i64 a0_3] 23 (0, 0))) ∧ Aside0 (wc.heap[gb184]? = some (.cells #[.int .i64 ((rd_T30 l1 x9_1).f0), .int .i64 ((rd_T30 l1 x9_1).f1), .int .i64 ((rd_T30 l1 x9_1).f2)] 30 (0, 0))) ∧ Aside0 (IsS40 w wc g181 x182000_18 x182001_18 x182002_18 x182003_18 x182004_18 x182005_18) ∧ Aside0 (Below w.heap.size w wc))
           case first =>
            have H := HC19.out
            clear HC19
            have HC24 := Aside0.mk H
            clear H
            go_upto_if 39 with (fail)
            repeat (go_quiet (fail); go_upto_if 39 with (fail))
            go_cut [39] (fun v39 wc => ∃ (kq : Nat) (x39_23 : Bool), v39 = .bool x39_23 ∧ Aside0 (blackboardlaw17_FrontPlays.j1 kq l1 t182 x7_1 x8_1 x9_1 ((rd_T30 l1 x9_1).f0) x39_23 a0_0 a0_1 a0_2 a0_3 x182000_1 x182001_1 x182002_1 x182003_1 x182004_1 x182005_1 ((rd_T30 l1 x9_1).f0) ((rd_T30 l1 x9_1).f1) ((rd_T30 l1 x9_1).f2) = some r) ∧ Aside0 (kq ≤ k1) ∧ Aside0 (wc.heap[gb173]? = some (.cells #[.int .i64 a0_0, .int .i64 a0_1, .int .i64 a0_2, .int .i64 a0_3] 23 (0, 0))) ∧ Aside0 (wc.heap[gb184]? = some (.cells #[.int .i64 ((rd_T30 l1 x9_1).f0), .int .i64 ((rd_T30 l1 x9_1).f1), .int .i64 ((rd_T30 l1 x9_1).f2)] 30 (0, 0))) ∧ Aside0 (IsS40 w wc g181 x182000_1 x182001_1 x182002_1 x182003_1 x182004_1 x182005_1) ∧ Aside0 (Below w.heap.size w wc))
            case first =>
             have H := HC24.out
             clear HC24
             by_cases c25 : ((rd_T30 l1 x9_1).f0) = 0
             ·
              rw [if_pos c25] at H
              have c25b0 : (((rd_T30 l1 x9_1).f0) == 0) = true := beq_iff_eq.mpr c25
              have c25b1 : (((rd_T30 l1 x9_1).f0) != 0) = false := bne_eq_false_iff_eq.mpr c25
              clear c25
              (first | rw [c25b0] | (simp only [i64_w, i32_w]; rw [c25b0]) | skip)
              have H' := Aside0.mk H
              clear H
              go_wp2
              repeat (go_quiet (fail); try go_wp2)
              go_meet
              case rel => exact ⟨_, ((((rd_T30 l1 x9_1).f0) == 0)), (by first | rfl | (simp; done) | (simp [*]; done)), H', ⟨by have := HK1.out; first | omega | exact Nat.le_refl _⟩, ⟨by (with_reducible repeat (first | refine blk_drewN ?_ _ | refine blk_drew ?_ | refine blk_alloc ?_ _)); refine blk_far ?_ NB173_184.out _; (with_reducible repeat (first | refine blk_drewN ?_ _ | refine blk_drew ?_ | refine blk_alloc ?_ _)); refine blk_far ?_ NB173_184.out _; (with_reducible repeat (first | refine blk_drewN ?_ _ | refine blk_drew ?_ | refine blk_alloc ?_ _)); refine blk_far ?_ NB173_184.out _; (with_reducible repeat (first | refine blk_drewN ?_ _ | refine blk_drew ?_ | refine blk_alloc ?_ _)); exact BK173.out⟩, ⟨by (with_reducible repeat (first | refine blk_drewN ?_ _ | refine blk_drew ?_ | refine blk_alloc ?_ _)); refine blk_put (cs := #[.int .i64 ((rd_T30 l1 x9_1).f0), .int .i64 ((rd_T30 l1 x9_1).f1), .int .i64 0]) ?_ 2 _ rfl; (with_reducible repeat (first | refine blk_drewN ?_ _ | refine blk_drew ?_ | refine blk_alloc ?_ _)); refine blk_put (cs := #[.int .i64 ((rd_T30 l1 x9_1).f0), .int .i64 0, .int .i64 0]) ?_ 1 _ rfl; (with_reducible repeat (first | refine blk_drewN ?_ _ | refine blk_drew ?_ | refine blk_alloc ?_ _)); refine blk_put (cs := #[.int .i64 0, .int .i64 0, .int .i64 0]) ?_ 0 _ rfl; (with_reducible repeat (first | refine blk_drewN ?_ _ | refine blk_drew ?_ | refine blk_alloc ?_ _)); exact BK184.out⟩, ⟨by repeat (first | (with_reducible first | exact HI181.out | apply IsS40.alloc | apply IsS40.drewN | apply IsS40.drew | apply IsS40.set_0 | apply IsS40.set_1 | apply IsS40.set_2 | apply IsS40.set_3 | apply IsS40.set_4 | apply IsS40.set_5 | refine IsS40.far ?_ NB181_173.out _ | refine IsS40.far ?_ NB181_184.out _) | exact HI181.out)⟩, ⟨by repeat (first | (with_reducible first | exact HB.out | apply below_alloc | apply pw_below_drewN | apply below_drew1 | refine below_set ?_ (IsS40.ge HI181.out) | refine below_set ?_ GE173.out | refine below_set ?_ GE184.out) | exact HB.out)⟩⟩
             ·
              rw [if_neg c25] at H
              have c25b0 : (((rd_T30 l1 x9_1).f0) == 0) = false := beq_eq_false_iff_ne.mpr c25
              have c25b1 : (((rd_T30 l1 x9_1).f0) != 0) = true := bne_iff_ne.mpr c25
              (first | rw [c25b0] | (simp only [i64_w, i32_w]; rw [c25b0]) | skip)
              have H' := Aside0.mk H
              clear H
              go_wp2
              repeat (go_quiet (fail); try go_wp2)
              go_meet
              case rel => exact ⟨_, ((((rd_T30 l1 x9_1).f0) == 1)), (by first | rfl | (simp; done) | (simp [*]; done)), H', ⟨by have := HK1.out; first | omega | exact Nat.le_refl _⟩, ⟨by (with_reducible repeat (first | refine blk_drewN ?_ _ | refine blk_drew ?_ | refine blk_alloc ?_ _)); refine blk_far ?_ NB173_184.out _; (with_reducible repeat (first | refine blk_drewN ?_ _ | refine blk_drew ?_ | refine blk_alloc ?_ _)); refine blk_far ?_ NB173_184.out _; (with_reducible repeat (first | refine blk_drewN ?_ _ | refine blk_drew ?_ | refine blk_alloc ?_ _)); refine blk_far ?_ NB173_184.out _; (with_reducible repeat (first | refine blk_drewN ?_ _ | refine blk_drew ?_ | refine blk_alloc ?_ _)); exact BK173.out⟩, ⟨by (with_reducible repeat (first | refine blk_drewN ?_ _ | refine blk_drew ?_ | refine blk_alloc ?_ _)); refine blk_put (cs := #[.int .i64 ((rd_T30 l1 x9_1).f0), .int .i64 ((rd_T30 l1 x9_1).f1), .int .i64 0]) ?_ 2 _ rfl; (with_reducible repeat (first | refine blk_drewN ?_ _ | refine blk_drew ?_ | refine blk_alloc ?_ _)); refine blk_put (cs := #[.int .i64 ((rd_T30 l1 x9_1).f0), .int .i64 0, .int .i64 0]) ?_ 1 _ rfl; (with_reducible repeat (first | refine blk_drewN ?_ _ | refine blk_drew ?_ | refine blk_alloc ?_ _)); refine blk_put (cs := #[.int .i64 0, .int .i64 0, .int .i64 0]) ?_ 0 _ rfl; (with_reducible repeat (first | refine blk_drewN ?_ _ | refine blk_drew ?_ | refine blk_alloc ?_ _)); exact BK184.out⟩, ⟨by repeat (first | (with_reducible first | exact HI181.out | apply IsS40.alloc | apply IsS40.drewN | apply IsS40.drew | apply IsS40.set_0 | apply IsS40.set_1 | apply IsS40.set_2 | apply IsS40.set_3 | apply IsS40.set_4 | apply IsS40.set_5 | refine IsS40.far ?_ NB181_173.out _ | refine IsS40.far ?_ NB181_184.out _) | exact HI181.out)⟩, ⟨by repeat (first | (with_reducible first | exact HB.out | apply below_alloc | apply pw_below_drewN | apply below_drew1 | refine below_set ?_ (IsS40.ge HI181.out) | refine below_set ?_ GE173.out | refine below_set ?_ GE184.out) | exact HB.out)⟩⟩
            case rest =>
             clear HC24
             try clear c1
             try clear p1
             try clear q1
             try clear hx1
             try clear c2
             try clear p2
             try clear c3
             try clear c4
             try clear c5
             try clear c5b0
             try clear c5b1
             try clear c14
             try clear c17
             try clear c17b0
             try clear c18
             try clear c18b0
             try clear p18
             try clear q18
             try clear hx18
             try clear c21
             try clear c22
             try clear c25
             try clear c25b0
             try clear c25b1
             try clear hcz12_0
             try clear hcz12_1
             try clear hcz12_2
             try clear hcz12_3
             try clear hcz15_0
             try clear hcz15_1
             try clear hcz15_2
             try clear hcz15_3
             try clear hcz23_0
             try clear hcz23_1
             try clear hcz23_2
             try clear hfz12_0
             try clear hfz12_1
             try clear hfz12_2
             try clear hfz12_3
             try clear hfz15_0
             try clear hfz15_1
             try clear hfz15_2
             try clear hfz15_3
             try clear hfz23_0
             try clear hfz23_1
             try clear hfz23_2
             try clear hx183_0
             try clear hx183_1
             try clear hx183_2
             try clear p183
             try clear p2
             try clear q183
             obtain ⟨kq, x39_23, rfl, HA, HJ23, BK173, BK184, HI181, HB⟩ := hcut
             cases kq with
             | zero => exact absurd HA.out (by simp [blackboardlaw17_FrontPlays.j1])
             | succ kj23 =>
              have H := HA.out
              clear HA
              simp only [blackboardlaw17_FrontPlays.j1] at H
              by_cases c26 : x39_23 = true
              ·
               as_aux_lemma =>
                subst c26
                have H1 : (if t182 = true then (if x7_1 < 0 then (if ((rd_T30 l1 x9_1).f1) ≥ 0 then (if ((rd_T30 l1 x9_1).f1) < a0_0 then (if ((rd_T30 l1 x9_1).f2) ≥ 0 then (blackboardlaw17_FrontPlays.j2 kj23 l1 t182 x7_1 x8_1 x9_1 (decide (((rd_T30 l1 x9_1).f2) < a0_1)) a0_0 a0_1 a0_2 a0_3 x182000_1 x182001_1 x182002_1 x182003_1 x182004_1 x182005_1 ((rd_T30 l1 x9_1).f0) ((rd_T30 l1 x9_1).f1) ((rd_T30 l1 x9_1).f2)) else (blackboardlaw17_FrontPlays.j2 kj23 l1 t182 x7_1 x8_1 x9_1 false a0_0 a0_1 a0_2 a0_3 x182000_1 x182001_1 x182002_1 x182003_1 x182004_1 x182005_1 ((rd_T30 l1 x9_1).f0) ((rd_T30 l1 x9_1).f1) ((rd_T30 l1 x9_1).f2))) else (blackboardlaw17_FrontPlays.j2 kj23 l1 t182 x7_1 x8_1 x9_1 false a0_0 a0_1 a0_2 a0_3 x182000_1 x182001_1 x182002_1 x182003_1 x182004_1 x182005_1 ((rd_T30 l1 x9_1).f0) ((rd_T30 l1 x9_1).f1) ((rd_T30 l1 x9_1).f2))) else (blackboardlaw17_FrontPlays.j2 kj23 l1 t182 x7_1 x8_1 x9_1 false a0_0 a0_1 a0_2 a0_3 x182000_1 x182001_1 x182002_1 x182003_1 x182004_1 x182005_1 ((rd_T30 l1 x9_1).f0) ((rd_T30 l1 x9_1).f1) ((rd_T30 l1 x9_1).f2))) else (blackboardlaw17_FrontPlays.j2 kj23 l1 t182 x7_1 x8_1 x9_1 false a0_0 a0_1 a0_2 a0_3 x182000_1 x182001_1 x182002_1 x182003_1 x182004_1 x182005_1 ((rd_T30 l1 x9_1).f0) ((rd_T30 l1 x9_1).f1) ((rd_T30 l1 x9_1).f2))) else (blackboardlaw17_FrontPlays.j2 kj23 l1 t182 x7_1 x8_1 x9_1 false a0_0 a0_1 a0_2 a0_3 x182000_1 x182001_1 x182002_1 x182003_1 x182004_1 x182005_1 ((rd_T30 l1 x9_1).f0) ((rd_T30 l1 x9_1).f1) ((rd_T30 l1 x9_1).f2))) = some r := by rw [if_pos rfl] at H; exact H
                clear H
                have H := H1
                clear H1
                have HC27 := Aside0.mk H
                clear H
                go_upto_region 17 with (fail)
                repeat (go_quiet (fail); go_upto_region 17 with (fail))
                go_cut [11] (fun v11 wc => ∃ (kq : Nat) (x11_26 : Bool), v11 = .bool x11_26 ∧ Aside0 (blackboardlaw17_FrontPlays.j2 kq l1 t182 x7_1 x8_1 x9_1 x11_26 a0_0 a0_1 a0_2 a0_3 x182000_1 x182001_1 x182002_1 x182003_1 x182004_1 x182005_1 ((rd_T30 l1 x9_1).f0) ((rd_T30 l1 x9_1).f1) ((rd_T30 l1 x9_1).f2) = some r) ∧ Aside0 (kq ≤ kj23) ∧ Aside0 (wc.heap[gb173]? = some (.cells #[.int .i64 a0_0, .int .i64 a0_1, .int .i64 a0_2, .int .i64 a0_3] 23 (0, 0))) ∧ Aside0 (wc.heap[gb184]? = some (.cells #[.int .i64 ((rd_T30 l1 x9_1).f0), .int .i64 ((rd_T30 l1 x9_1).f1), .int .i64 ((rd_T30 l1 x9_1).f2)] 30 (0, 0))) ∧ Aside0 (IsS40 w wc g181 x182000_1 x182001_1 x182002_1 x182003_1 x182004_1 x182005_1) ∧ Aside0 (Below w.heap.size w wc))
                case first =>
                 have H := HC27.out
                 clear HC27
                 by_cases c28 : t182 = true
                 ·
                  as_aux_lemma =>
                   subst c28
                   have H1 : (if x7_1 < 0 then (if ((rd_T30 l1 x9_1).f1) ≥ 0 then (if ((rd_T30 l1 x9_1).f1) < a0_0 then (if ((rd_T30 l1 x9_1).f2) ≥ 0 then (blackboardlaw17_FrontPlays.j2 kj23 l1 true x7_1 x8_1 x9_1 (decide (((rd_T30 l1 x9_1).f2) < a0_1)) a0_0 a0_1 a0_2 a0_3 x182000_1 x182001_1 x182002_1 x182003_1 x182004_1 x182005_1 ((rd_T30 l1 x9_1).f0) ((rd_T30 l1 x9_1).f1) ((rd_T30 l1 x9_1).f2)) else (blackboardlaw17_FrontPlays.j2 kj23 l1 true x7_1 x8_1 x9_1 false a0_0 a0_1 a0_2 a0_3 x182000_1 x182001_1 x182002_1 x182003_1 x182004_1 x182005_1 ((rd_T30 l1 x9_1).f0) ((rd_T30 l1 x9_1).f1) ((rd_T30 l1 x9_1).f2))) else (blackboardlaw17_FrontPlays.j2 kj23 l1 true x7_1 x8_1 x9_1 false a0_0 a0_1 a0_2 a0_3 x182000_1 x182001_1 x182002_1 x182003_1 x182004_1 x182005_1 ((rd_T30 l1 x9_1).f0) ((rd_T30 l1 x9_1).f1) ((rd_T30 l1 x9_1).f2))) else (blackboardlaw17_FrontPlays.j2 kj23 l1 true x7_1 x8_1 x9_1 false a0_0 a0_1 a0_2 a0_3 x182000_1 x182001_1 x182002_1 x182003_1 x182004_1 x182005_1 ((rd_T30 l1 x9_1).f0) ((rd_T30 l1 x9_1).f1) ((rd_T30 l1 x9_1).f2))) else (blackboardlaw17_FrontPlays.j2 kj23 l1 true x7_1 x8_1 x9_1 false a0_0 a0_1 a0_2 a0_3 x182000_1 x182001_1 x182002_1 x182003_1 x182004_1 x182005_1 ((rd_T30 l1 x9_1).f0) ((rd_T30 l1 x9_1).f1) ((rd_T30 l1 x9_1).f2))) = some r := by rw [if_pos rfl] at H; exact H
                   clear H
                   have H := H1
                   clear H1
                   by_cases c29 : x7_1 < 0
                   ·
                    as_aux_lemma =>
                     rw [if_pos c29] at H
                     have c29b0 : decide (x7_1 < 0) = true := decide_eq_true c29
                     clear c29
                     (first | rw [c29b0] | (simp only [i64_w, i32_w]; rw [c29b0]) | skip)
                     by_cases c30 : ((rd_T30 l1 x9_1).f1) ≥ 0
                     ·
                      as_aux_lemma =>
                       rw [if_pos c30] at H
                       have c30b0 : decide (0 ≤ ((rd_T30 l1 x9_1).f1)) = true := decide_eq_true c30
                       clear c30
                       by_cases c31 : ((rd_T30 l1 x9_1).f1) < a0_0
                       ·
                        as_aux_lemma =>
                         rw [if_pos c31] at H
                         have c31b0 : decide (((rd_T30 l1 x9_1).f1) < a0_0) = true := decide_eq_true c31
                         clear c31
                         by_cases c32 : ((rd_T30 l1 x9_1).f2) ≥ 0
                         ·
                          rw [if_pos c32] at H
                          have c32b0 : decide (0 ≤ ((rd_T30 l1 x9_1).f2)) = true := decide_eq_true c32
                          clear c32
                          have H' := Aside0.mk H
                          clear H
                          have hnb33 := NB184_173.out
                          have hnc33 := NB173_184.out
                          have hnb34 := NB184_181.out
                          have hnc34 := NB181_184.out
                          have hcz35_0 : wc.cell? ⟨gb184, 0, none⟩ = some (.int .i64 ((rd_T30 l1 x9_1).f0)) := (blk_cell BK184.out 0).trans rfl
                          have hcz35_1 : wc.cell? ⟨gb184, 1, none⟩ = some (.int .i64 ((rd_T30 l1 x9_1).f1)) := (blk_cell BK184.out 1).trans rfl
                          have hcz35_2 : wc.cell? ⟨gb184, 2, none⟩ = some (.int .i64 ((rd_T30 l1 x9_1).f2)) := (blk_cell BK184.out 2).trans rfl
                          have hfz35_0 := blk_frozen BK184.out 0
                          have hfz35_1 := blk_frozen BK184.out 1
                          have hfz35_2 := blk_frozen BK184.out 2
                          have hnb36 := NB173_181.out
                          have hnc36 := NB181_173.out
                          have hcz37_0 : wc.cell? ⟨gb173, 0, none⟩ = some (.int .i64 a0_0) := (blk_cell BK173.out 0).trans rfl
                          have hcz37_1 : wc.cell? ⟨gb173, 1, none⟩ = some (.int .i64 a0_1) := (blk_cell BK173.out 1).trans rfl
                          have hcz37_2 : wc.cell? ⟨gb173, 2, none⟩ = some (.int .i64 a0_2) := (blk_cell BK173.out 2).trans rfl
                          have hcz37_3 : wc.cell? ⟨gb173, 3, none⟩ = some (.int .i64 a0_3) := (blk_cell BK173.out 3).trans rfl
                          have hfz37_0 := blk_frozen BK173.out 0
                          have hfz37_1 := blk_frozen BK173.out 1
                          have hfz37_2 := blk_frozen BK173.out 2
                          have hfz37_3 := blk_frozen BK173.out 3
                          go_wp2
                          repeat (go_quiet (fail); try go_wp2)
                          go_meet
                          case rel => exact ⟨_, (decide (((rd_T30 l1 x9_1).f2) < a0_1)), (by first | rfl | (simp; done) | (simp [*]; done)), H', ⟨by have := HK1.out; have := HJ23.out; first | omega | exact Nat.le_refl _⟩, ⟨by (with_reducible repeat (first | refine blk_drewN ?_ _ | refine blk_drew ?_ | refine blk_alloc ?_ _)); exact BK173.out⟩, ⟨by (with_reducible repeat (first | refine blk_drewN ?_ _ | refine blk_drew ?_ | refine blk_alloc ?_ _)); exact BK184.out⟩, ⟨by repeat (first | (with_reducible first | exact HI181.out | apply IsS40.alloc | apply IsS40.drewN | apply IsS40.drew | apply IsS40.set_0 | apply IsS40.set_1 | apply IsS40.set_2 | apply IsS40.set_3 | apply IsS40.set_4 | apply IsS40.set_5 | refine IsS40.far ?_ NB181_173.out _ | refine IsS40.far ?_ NB181_184.out _) | exact HI181.out)⟩, ⟨by repeat (first | (with_reducible first | exact HB.out | apply below_alloc | apply pw_below_drewN | apply below_drew1 | refine below_set ?_ (IsS40.ge HI181.out) | refine below_set ?_ GE173.out | refine below_set ?_ GE184.out) | exact HB.out)⟩⟩
                         ·
                          rw [if_neg c32] at H
                          have c32b0 : decide (0 ≤ ((rd_T30 l1 x9_1).f2)) = false := decide_eq_false c32
                          clear c32
                          have H' := Aside0.mk H
                          clear H
                          have hnb38 := NB184_173.out
                          have hnc38 := NB173_184.out
                          have hnb39 := NB184_181.out
                          have hnc39 := NB181_184.out
                          have hcz40_0 : wc.cell? ⟨gb184, 0, none⟩ = some (.int .i64 ((rd_T30 l1 x9_1).f0)) := (blk_cell BK184.out 0).trans rfl
                          have hcz40_1 : wc.cell? ⟨gb184, 1, none⟩ = some (.int .i64 ((rd_T30 l1 x9_1).f1)) := (blk_cell BK184.out 1).trans rfl
                          have hcz40_2 : wc.cell? ⟨gb184, 2, none⟩ = some (.int .i64 ((rd_T30 l1 x9_1).f2)) := (blk_cell BK184.out 2).trans rfl
                          have hfz40_0 := blk_frozen BK184.out 0
                          have hfz40_1 := blk_frozen BK184.out 1
                          have hfz40_2 := blk_frozen BK184.out 2
                          have hnb41 := NB173_181.out
                          have hnc41 := NB181_173.out
                          have hcz42_0 : wc.cell? ⟨gb173, 0, none⟩ = some (.int .i64 a0_0) := (blk_cell BK173.out 0).trans rfl
                          have hcz42_1 : wc.cell? ⟨gb173, 1, none⟩ = some (.int .i64 a0_1) := (blk_cell BK173.out 1).trans rfl
                          have hcz42_2 : wc.cell? ⟨gb173, 2, none⟩ = some (.int .i64 a0_2) := (blk_cell BK173.out 2).trans rfl
                          have hcz42_3 : wc.cell? ⟨gb173, 3, none⟩ = some (.int .i64 a0_3) := (blk_cell BK173.out 3).trans rfl
                          have hfz42_0 := blk_frozen BK173.out 0
                          have hfz42_1 := blk_frozen BK173.out 1
                          have hfz42_2 := blk_frozen BK173.out 2
                          have hfz42_3 := blk_frozen BK173.out 3
                          go_wp2
                          repeat (go_quiet (fail); try go_wp2)
                          go_meet
                          case rel => exact ⟨_, (false), (by first | rfl | (simp; done) | (simp [*]; done)), H', ⟨by have := HK1.out; have := HJ23.out; first | omega | exact Nat.le_refl _⟩, ⟨by (with_reducible repeat (first | refine blk_drewN ?_ _ | refine blk_drew ?_ | refine blk_alloc ?_ _)); exact BK173.out⟩, ⟨by (with_reducible repeat (first | refine blk_drewN ?_ _ | refine blk_drew ?_ | refine blk_alloc ?_ _)); exact BK184.out⟩, ⟨by repeat (first | (with_reducible first | exact HI181.out | apply IsS40.alloc | apply IsS40.drewN | apply IsS40.drew | apply IsS40.set_0 | apply IsS40.set_1 | apply IsS40.set_2 | apply IsS40.set_3 | apply IsS40.set_4 | apply IsS40.set_5 | refine IsS40.far ?_ NB181_173.out _ | refine IsS40.far ?_ NB181_184.out _) | exact HI181.out)⟩, ⟨by repeat (first | (with_reducible first | exact HB.out | apply below_alloc | apply pw_below_drewN | apply below_drew1 | refine below_set ?_ (IsS40.ge HI181.out) | refine below_set ?_ GE173.out | refine below_set ?_ GE184.out) | exact HB.out)⟩⟩
                       ·
                        rw [if_neg c31] at H
                        have c31b0 : decide (((rd_T30 l1 x9_1).f1) < a0_0) = false := decide_eq_false c31
                        clear c31
                        have H' := Aside0.mk H
                        clear H
                        have hnb43 := NB184_173.out
                        have hnc43 := NB173_184.out
                        have hnb44 := NB184_181.out
                        have hnc44 := NB181_184.out
                        have hcz45_0 : wc.cell? ⟨gb184, 0, none⟩ = some (.int .i64 ((rd_T30 l1 x9_1).f0)) := (blk_cell BK184.out 0).trans rfl
                        have hcz45_1 : wc.cell? ⟨gb184, 1, none⟩ = some (.int .i64 ((rd_T30 l1 x9_1).f1)) := (blk_cell BK184.out 1).trans rfl
                        have hcz45_2 : wc.cell? ⟨gb184, 2, none⟩ = some (.int .i64 ((rd_T30 l1 x9_1).f2)) := (blk_cell BK184.out 2).trans rfl
                        have hfz45_0 := blk_frozen BK184.out 0
                        have hfz45_1 := blk_frozen BK184.out 1
                        have hfz45_2 := blk_frozen BK184.out 2
                        have hnb46 := NB173_181.out
                        have hnc46 := NB181_173.out
                        have hcz47_0 : wc.cell? ⟨gb173, 0, none⟩ = some (.int .i64 a0_0) := (blk_cell BK173.out 0).trans rfl
                        have hcz47_1 : wc.cell? ⟨gb173, 1, none⟩ = some (.int .i64 a0_1) := (blk_cell BK173.out 1).trans rfl
                        have hcz47_2 : wc.cell? ⟨gb173, 2, none⟩ = some (.int .i64 a0_2) := (blk_cell BK173.out 2).trans rfl
                        have hcz47_3 : wc.cell? ⟨gb173, 3, none⟩ = some (.int .i64 a0_3) := (blk_cell BK173.out 3).trans rfl
                        have hfz47_0 := blk_frozen BK173.out 0
                        have hfz47_1 := blk_frozen BK173.out 1
                        have hfz47_2 := blk_frozen BK173.out 2
                        have hfz47_3 := blk_frozen BK173.out 3
                        go_wp2
                        repeat (go_quiet (fail); try go_wp2)
                        go_meet
                        case rel => exact ⟨_, (false), (by first | rfl | (simp; done) | (simp [*]; done)), H', ⟨by have := HK1.out; have := HJ23.out; first | omega | exact Nat.le_refl _⟩, ⟨by (with_reducible repeat (first | refine blk_drewN ?_ _ | refine blk_drew ?_ | refine blk_alloc ?_ _)); exact BK173.out⟩, ⟨by (with_reducible repeat (first | refine blk_drewN ?_ _ | refine blk_drew ?_ | refine blk_alloc ?_ _)); exact BK184.out⟩, ⟨by repeat (first | (with_reducible first | exact HI181.out | apply IsS40.alloc | apply IsS40.drewN | apply IsS40.drew | apply IsS40.set_0 | apply IsS40.set_1 | apply IsS40.set_2 | apply IsS40.set_3 | apply IsS40.set_4 | apply IsS40.set_5 | refine IsS40.far ?_ NB181_173.out _ | refine IsS40.far ?_ NB181_184.out _) | exact HI181.out)⟩, ⟨by repeat (first | (with_reducible first | exact HB.out | apply below_alloc | apply pw_below_drewN | apply below_drew1 | refine below_set ?_ (IsS40.ge HI181.out) | refine below_set ?_ GE173.out | refine below_set ?_ GE184.out) | exact HB.out)⟩⟩
                     ·
                      rw [if_neg c30] at H
                      have c30b0 : decide (0 ≤ ((rd_T30 l1 x9_1).f1)) = false := decide_eq_false c30
                      clear c30
                      have H' := Aside0.mk H
                      clear H
                      have hnb48 := NB184_173.out
                      have hnc48 := NB173_184.out
                      have hnb49 := NB184_181.out
                      have hnc49 := NB181_184.out
                      have hcz50_0 : wc.cell? ⟨gb184, 0, none⟩ = some (.int .i64 ((rd_T30 l1 x9_1).f0)) := (blk_cell BK184.out 0).trans rfl
                      have hcz50_1 : wc.cell? ⟨gb184, 1, none⟩ = some (.int .i64 ((rd_T30 l1 x9_1).f1)) := (blk_cell BK184.out 1).trans rfl
                      have hcz50_2 : wc.cell? ⟨gb184, 2, none⟩ = some (.int .i64 ((rd_T30 l1 x9_1).f2)) := (blk_cell BK184.out 2).trans rfl
                      have hfz50_0 := blk_frozen BK184.out 0
                      have hfz50_1 := blk_frozen BK184.out 1
                      have hfz50_2 := blk_frozen BK184.out 2
                      go_wp2
                      repeat (go_quiet (fail); try go_wp2)
                      go_meet
                      case rel => exact ⟨_, (false), (by first | rfl | (simp; done) | (simp [*]; done)), H', ⟨by have := HK1.out; have := HJ23.out; first | omega | exact Nat.le_refl _⟩, ⟨by (with_reducible repeat (first | refine blk_drewN ?_ _ | refine blk_drew ?_ | refine blk_alloc ?_ _)); exact BK173.out⟩, ⟨by (with_reducible repeat (first | refine blk_drewN ?_ _ | refine blk_drew ?_ | refine blk_alloc ?_ _)); exact BK184.out⟩, ⟨by repeat (first | (with_reducible first | exact HI181.out | apply IsS40.alloc | apply IsS40.drewN | apply IsS40.drew | apply IsS40.set_0 | apply IsS40.set_1 | apply IsS40.set_2 | apply IsS40.set_3 | apply IsS40.set_4 | apply IsS40.set_5 | refine IsS40.far ?_ NB181_173.out _ | refine IsS40.far ?_ NB181_184.out _) | exact HI181.out)⟩, ⟨by repeat (first | (with_reducible first | exact HB.out | apply below_alloc | apply pw_below_drewN | apply below_drew1 | refine below_set ?_ (IsS40.ge HI181.out) | refine below_set ?_ GE173.out | refine below_set ?_ GE184.out) | exact HB.out)⟩⟩
                   ·
                    rw [if_neg c29] at H
                    have c29b0 : decide (x7_1 < 0) = false := decide_eq_false c29
                    clear c29
                    (first | rw [c29b0] | (simp only [i64_w, i32_w]; rw [c29b0]) | skip)
                    have H' := Aside0.mk H
                    clear H
                    go_wp2
                    repeat (go_quiet (fail); try go_wp2)
                    go_meet
                    case rel => exact ⟨_, (false), (by first | rfl | (simp; done) | (simp [*]; done)), H', ⟨by have := HK1.out; have := HJ23.out; first | omega | exact Nat.le_refl _⟩, ⟨by (with_reducible repeat (first | refine blk_drewN ?_ _ | refine blk_drew ?_ | refine blk_alloc ?_ _)); exact BK173.out⟩, ⟨by (with_reducible repeat (first | refine blk_drewN ?_ _ | refine blk_drew ?_ | refine blk_alloc ?_ _)); exact BK184.out⟩, ⟨by repeat (first | (with_reducible first | exact HI181.out | apply IsS40.alloc | apply IsS40.drewN | apply IsS40.drew | apply IsS40.set_0 | apply IsS40.set_1 | apply IsS40.set_2 | apply IsS40.set_3 | apply IsS40.set_4 | apply IsS40.set_5 | refine IsS40.far ?_ NB181_173.out _ | refine IsS40.far ?_ NB181_184.out _) | exact HI181.out)⟩, ⟨by repeat (first | (with_reducible first | exact HB.out | apply below_alloc | apply pw_below_drewN | apply below_drew1 | refine below_set ?_ (IsS40.ge HI181.out) | refine below_set ?_ GE173.out | refine below_set ?_ GE184.out) | exact HB.out)⟩⟩
                 ·
                  replace c28 := Bool.eq_false_iff.mpr c28
                  subst c28
                  have H1 : (blackboardlaw17_FrontPlays.j2 kj23 l1 false x7_1 x8_1 x9_1 false a0_0 a0_1 a0_2 a0_3 x182000_1 x182001_1 x182002_1 x182003_1 x182004_1 x182005_1 ((rd_T30 l1 x9_1).f0) ((rd_T30 l1 x9_1).f1) ((rd_T30 l1 x9_1).f2)) = some r := by rw [if_neg (show ¬ (false = true) by decide)] at H; exact H
                  clear H
                  have H := H1
                  clear H1
                  have H' := Aside0.mk H
                  clear H
                  go_wp2
                  repeat (go_quiet (fail); try go_wp2)
                  go_meet
                  case rel => exact ⟨_, (false), (by first | rfl | (simp; done) | (simp [*]; done)), H', ⟨by have := HK1.out; have := HJ23.out; first | omega | exact Nat.le_refl _⟩, ⟨by (with_reducible repeat (first | refine blk_drewN ?_ _ | refine blk_drew ?_ | refine blk_alloc ?_ _)); exact BK173.out⟩, ⟨by (with_reducible repeat (first | refine blk_drewN ?_ _ | refine blk_drew ?_ | refine blk_alloc ?_ _)); exact BK184.out⟩, ⟨by repeat (first | (with_reducible first | exact HI181.out | apply IsS40.alloc | apply IsS40.drewN | apply IsS40.drew | apply IsS40.set_0 | apply IsS40.set_1 | apply IsS40.set_2 | apply IsS40.set_3 | apply IsS40.set_4 | apply IsS40.set_5 | refine IsS40.far ?_ NB181_173.out _ | refine IsS40.far ?_ NB181_184.out _) | exact HI181.out)⟩, ⟨by repeat (first | (with_reducible first | exact HB.out | apply below_alloc | apply pw_below_drewN | apply below_drew1 | refine below_set ?_ (IsS40.ge HI181.out) | refine below_set ?_ GE173.out | refine below_set ?_ GE184.out) | exact HB.out)⟩⟩
                case rest =>
                 clear HC27
                 try clear c1
                 try clear p1
                 try clear q1
                 try clear hx1
                 try clear c2
                 try clear p2
                 try clear c3
                 try clear c4
                 try clear c5
                 try clear c5b0
                 try clear c5b1
                 try clear c14
                 try clear c17
                 try clear c17b0
                 try clear c18
                 try clear c18b0
                 try clear p18
                 try clear q18
                 try clear hx18
                 try clear c21
                 try clear c22
                 try clear c25
                 try clear c25b0
                 try clear c25b1
                 try clear c26
                 try clear c28
                 try clear c29
                 try clear c29b0
                 try clear c30
                 try clear c30b0
                 try clear c31
                 try clear c31b0
                 try clear c32
                 try clear c32b0
                 try clear c33
                 try clear c34
                 try clear c36
                 try clear c38
                 try clear c39
                 try clear c41
                 try clear c43
                 try clear c44
                 try clear c46
                 try clear c48
                 try clear c49
                 try clear hcz12_0
                 try clear hcz12_1
                 try clear hcz12_2
                 try clear hcz12_3
                 try clear hcz15_0
                 try clear hcz15_1
                 try clear hcz15_2
                 try clear hcz15_3
                 try clear hcz23_0
                 try clear hcz23_1
                 try clear hcz23_2
                 try clear hcz35_0
                 try clear hcz35_1
                 try clear hcz35_2
                 try clear hcz37_0
                 try clear hcz37_1
                 try clear hcz37_2
                 try clear hcz37_3
                 try clear hcz40_0
                 try clear hcz40_1
                 try clear hcz40_2
                 try clear hcz42_0
                 try clear hcz42_1
                 try clear hcz42_2
                 try clear hcz42_3
                 try clear hcz45_0
                 try clear hcz45_1
                 try clear hcz45_2
                 try clear hcz47_0
                 try clear hcz47_1
                 try clear hcz47_2
                 try clear hcz47_3
                 try clear hcz50_0
                 try clear hcz50_1
                 try clear hcz50_2
                 try clear hfz12_0
                 try clear hfz12_1
                 try clear hfz12_2
                 try clear hfz12_3
                 try clear hfz15_0
                 try clear hfz15_1
                 try clear hfz15_2
                 try clear hfz15_3
                 try clear hfz23_0
                 try clear hfz23_1
                 try clear hfz23_2
                 try clear hfz35_0
                 try clear hfz35_1
                 try clear hfz35_2
                 try clear hfz37_0
                 try clear hfz37_1
                 try clear hfz37_2
                 try clear hfz37_3
                 try clear hfz40_0
                 try clear hfz40_1
                 try clear hfz40_2
                 try clear hfz42_0
                 try clear hfz42_1
                 try clear hfz42_2
                 try clear hfz42_3
                 try clear hfz45_0
                 try clear hfz45_1
                 try clear hfz45_2
                 try clear hfz47_0
                 try clear hfz47_1
                 try clear hfz47_2
                 try clear hfz47_3
                 try clear hfz50_0
                 try clear hfz50_1
                 try clear hfz50_2
                 try clear hx183_0
                 try clear hx183_1
                 try clear hx183_2
                 try clear p1
                 try clear p18
                 try clear p183
                 try clear p2
                 try clear q1
                 try clear q18
                 try clear q183
                 obtain ⟨kq, x11_26, rfl, HA, HJ26, BK173, BK184, HI181, HB⟩ := hcut
                 cases kq with
                 | zero => exact absurd HA.out (by simp [blackboardlaw17_FrontPlays.j2])
                 | succ kj26 =>
                  have H := HA.out
                  clear HA
                  simp only [blackboardlaw17_FrontPlays.j2] at H
                  replace H := Option.bind_eq_some_iff.mp H
                  obtain ⟨⟨t185, t186, t187, t188, t189, t190, t191⟩, A510, H⟩ := H
                  replace H : (if (t185 != x11_26) = true then (some false) else (if x11_26 = true then (blackboardlaw17_FrontPlays.j7 kj26 l1 t182 ((rd_T30 l1 x9_1).f1) ((rd_T30 l1 x9_1).f2) x9_1 a0_0 a0_1 a0_2 a0_3 t186 t187 t188 t189 t190 t191) else (blackboardlaw17_FrontPlays.j7 kj26 l1 t182 x7_1 x8_1 x9_1 a0_0 a0_1 a0_2 a0_3 t186 t187 t188 t189 t190 t191))) = some r := H
                  have A51 := Aside0.mk A510
                  clear A510
                  by_cases c52 : (t185 != x11_26) = true
                  ·
                   as_aux_lemma =>
                    rw [if_pos c52] at H
                    have c52b0 : (t185 != x11_26) = true := c52
                    (try (have c52b1 : decide (t185 = x11_26) = false := by simpa using c52))
                    (try (have c52b2 : (t185 == x11_26) = false := by simpa using c52))
                    (try (have c52b3 : ¬ (t185 = x11_26) := by simpa using c52))
                    clear c52
                    obtain rfl := Option.some.inj H
                    have hnb53 := NB184_173.out
                    have hnc53 := NB173_184.out
                    have hnb54 := NB184_181.out
                    have hnc54 := NB181_184.out
                    have hcz55_0 : wc.cell? ⟨gb184, 0, none⟩ = some (.int .i64 ((rd_T30 l1 x9_1).f0)) := (blk_cell BK184.out 0).trans rfl
                    have hcz55_1 : wc.cell? ⟨gb184, 1, none⟩ = some (.int .i64 ((rd_T30 l1 x9_1).f1)) := (blk_cell BK184.out 1).trans rfl
                    have hcz55_2 : wc.cell? ⟨gb184, 2, none⟩ = some (.int .i64 ((rd_T30 l1 x9_1).f2)) := (blk_cell BK184.out 2).trans rfl
                    have hfz55_0 := blk_frozen BK184.out 0
                    have hfz55_1 := blk_frozen BK184.out 1
                    have hfz55_2 := blk_frozen BK184.out 2
                    go_wp2_with (first | (go_at_call 10; (with_reducible refine (front_Front_Open.calls g181 x182000_1 x182001_1 x182002_1 x182003_1 x182004_1 x182005_1 ((rd_T30 l1 x9_1).f1) ((rd_T30 l1 x9_1).f2) t185 t186 t187 t188 t189 t190 t191 w _ ?side1 ?side2 A51.out).mono ?_); (case side1 => repeat (first | (with_reducible first | exact HI181.out | apply IsS40.alloc | apply IsS40.drewN | apply IsS40.drew | apply IsS40.set_0 | apply IsS40.set_1 | apply IsS40.set_2 | apply IsS40.set_3 | apply IsS40.set_4 | apply IsS40.set_5 | refine IsS40.far ?_ NB181_173.out _ | refine IsS40.far ?_ NB181_184.out _) | exact HI181.out)); (case side2 => repeat (first | (with_reducible first | exact HB.out | apply below_alloc | apply pw_below_drewN | apply below_drew1 | refine below_set ?_ (IsS40.ge HI181.out) | refine below_set ?_ GE173.out | refine below_set ?_ GE184.out) | exact HB.out)); rintro e w56 ⟨rfl, hi, hb, hk⟩; have n0_ := Aside0.mk (KeepBut.blk hk (g' := gb173) (o := .cells #[.int .i64 a0_0, .int .i64 a0_1, .int .i64 a0_2, .int .i64 a0_3] 23 (0, 0)) (by (with_reducible repeat (first | refine blk_drewN ?_ _ | refine blk_drew ?_ | refine blk_alloc ?_ _)); exact BK173.out) NB173_181.out (by simp)); have n1_ := Aside0.mk (KeepBut.blk hk (g' := gb184) (o := .cells #[.int .i64 ((rd_T30 l1 x9_1).f0), .int .i64 ((rd_T30 l1 x9_1).f1), .int .i64 ((rd_T30 l1 x9_1).f2)] 30 (0, 0)) (by (with_reducible repeat (first | refine blk_drewN ?_ _ | refine blk_drew ?_ | refine blk_alloc ?_ _)); exact BK184.out) NB184_181.out (by simp)); have n2_ := Aside0.mk (hb); have n3_ := Aside0.mk (hi); clear BK173; clear BK184; clear HB; clear HI181; have BK173 := n0_; have BK184 := n1_; have HB := n2_; have HI181 := n3_; clear n0_ n1_ n2_ n3_; (try clear hb); (try clear hb2); (try clear hk); (try clear hi)))
                    repeat (go_quiet (first | (go_at_call 10; (with_reducible refine (front_Front_Open.calls g181 x182000_1 x182001_1 x182002_1 x182003_1 x182004_1 x182005_1 ((rd_T30 l1 x9_1).f1) ((rd_T30 l1 x9_1).f2) t185 t186 t187 t188 t189 t190 t191 w _ ?side1 ?side2 A51.out).mono ?_); (case side1 => repeat (first | (with_reducible first | exact HI181.out | apply IsS40.alloc | apply IsS40.drewN | apply IsS40.drew | apply IsS40.set_0 | apply IsS40.set_1 | apply IsS40.set_2 | apply IsS40.set_3 | apply IsS40.set_4 | apply IsS40.set_5 | refine IsS40.far ?_ NB181_173.out _ | refine IsS40.far ?_ NB181_184.out _) | exact HI181.out)); (case side2 => repeat (first | (with_reducible first | exact HB.out | apply below_alloc | apply pw_below_drewN | apply below_drew1 | refine below_set ?_ (IsS40.ge HI181.out) | refine below_set ?_ GE173.out | refine below_set ?_ GE184.out) | exact HB.out)); rintro e w56 ⟨rfl, hi, hb, hk⟩; have n0_ := Aside0.mk (KeepBut.blk hk (g' := gb173) (o := .cells #[.int .i64 a0_0, .int .i64 a0_1, .int .i64 a0_2, .int .i64 a0_3] 23 (0, 0)) (by (with_reducible repeat (first | refine blk_drewN ?_ _ | refine blk_drew ?_ | refine blk_alloc ?_ _)); exact BK173.out) NB173_181.out (by simp)); have n1_ := Aside0.mk (KeepBut.blk hk (g' := gb184) (o := .cells #[.int .i64 ((rd_T30 l1 x9_1).f0), .int .i64 ((rd_T30 l1 x9_1).f1), .int .i64 ((rd_T30 l1 x9_1).f2)] 30 (0, 0)) (by (with_reducible repeat (first | refine blk_drewN ?_ _ | refine blk_drew ?_ | refine blk_alloc ?_ _)); exact BK184.out) NB184_181.out (by simp)); have n2_ := Aside0.mk (hb); have n3_ := Aside0.mk (hi); clear BK173; clear BK184; clear HB; clear HI181; have BK173 := n0_; have BK184 := n1_; have HB := n2_; have HI181 := n3_; clear n0_ n1_ n2_ n3_; (try clear hb); (try clear hb2); (try clear hk); (try clear hi))); try go_wp2_with (first | (go_at_call 10; (with_reducible refine (front_Front_Open.calls g181 x182000_1 x182001_1 x182002_1 x182003_1 x182004_1 x182005_1 ((rd_T30 l1 x9_1).f1) ((rd_T30 l1 x9_1).f2) t185 t186 t187 t188 t189 t190 t191 w _ ?side1 ?side2 A51.out).mono ?_); (case side1 => repeat (first | (with_reducible first | exact HI181.out | apply IsS40.alloc | apply IsS40.drewN | apply IsS40.drew | apply IsS40.set_0 | apply IsS40.set_1 | apply IsS40.set_2 | apply IsS40.set_3 | apply IsS40.set_4 | apply IsS40.set_5 | refine IsS40.far ?_ NB181_173.out _ | refine IsS40.far ?_ NB181_184.out _) | exact HI181.out)); (case side2 => repeat (first | (with_reducible first | exact HB.out | apply below_alloc | apply pw_below_drewN | apply below_drew1 | refine below_set ?_ (IsS40.ge HI181.out) | refine below_set ?_ GE173.out | refine below_set ?_ GE184.out) | exact HB.out)); rintro e w56 ⟨rfl, hi, hb, hk⟩; have n0_ := Aside0.mk (KeepBut.blk hk (g' := gb173) (o := .cells #[.int .i64 a0_0, .int .i64 a0_1, .int .i64 a0_2, .int .i64 a0_3] 23 (0, 0)) (by (with_reducible repeat (first | refine blk_drewN ?_ _ | refine blk_drew ?_ | refine blk_alloc ?_ _)); exact BK173.out) NB173_181.out (by simp)); have n1_ := Aside0.mk (KeepBut.blk hk (g' := gb184) (o := .cells #[.int .i64 ((rd_T30 l1 x9_1).f0), .int .i64 ((rd_T30 l1 x9_1).f1), .int .i64 ((rd_T30 l1 x9_1).f2)] 30 (0, 0)) (by (with_reducible repeat (first | refine blk_drewN ?_ _ | refine blk_drew ?_ | refine blk_alloc ?_ _)); exact BK184.out) NB184_181.out (by simp)); have n2_ := Aside0.mk (hb); have n3_ := Aside0.mk (hi); clear BK173; clear BK184; clear HB; clear HI181; have BK173 := n0_; have BK184 := n1_; have HB := n2_; have HI181 := n3_; clear n0_ n1_ n2_ n3_; (try clear hb); (try clear hb2); (try clear hk); (try clear hi))))
                    go_ret
                    exact ⟨by first | rfl | (simp [errW_none, errW_some] <;> rfl) | (simp [*, errW_none, errW_some] <;> rfl), by repeat (first | (with_reducible first | exact HB.out | apply below_alloc | apply pw_below_drewN | apply below_drew1 | refine below_set ?_ (IsS40.ge HI181.out) | refine below_set ?_ GE173.out | refine below_set ?_ GE184.out) | exact HB.out)⟩
                  ·
                   as_aux_lemma =>
                    rw [if_neg c52] at H
                    have c52b0 : (t185 != x11_26) = false := by simpa using c52
                    (try (have c52b1 : decide (t185 = x11_26) = true := by simpa using c52))
                    (try (have c52b2 : (t185 == x11_26) = true := by simpa using c52))
                    clear c52
                    by_cases c57 : x11_26 = true
                    ·
                     as_aux_lemma =>
                      subst c57
                      have H1 : (blackboardlaw17_FrontPlays.j7 kj26 l1 t182 ((rd_T30 l1 x9_1).f1) ((rd_T30 l1 x9_1).f2) x9_1 a0_0 a0_1 a0_2 a0_3 t186 t187 t188 t189 t190 t191) = some r := by rw [if_pos rfl] at H; exact H
                      clear H
                      have H := H1
                      clear H1
                      have H' := Aside0.mk H
                      clear H
                      have hnb58 := NB184_173.out
                      have hnc58 := NB173_184.out
                      have hnb59 := NB184_181.out
                      have hnc59 := NB181_184.out
                      have hcz60_0 : wc.cell? ⟨gb184, 0, none⟩ = some (.int .i64 ((rd_T30 l1 x9_1).f0)) := (blk_cell BK184.out 0).trans rfl
                      have hcz60_1 : wc.cell? ⟨gb184, 1, none⟩ = some (.int .i64 ((rd_T30 l1 x9_1).f1)) := (blk_cell BK184.out 1).trans rfl
                      have hcz60_2 : wc.cell? ⟨gb184, 2, none⟩ = some (.int .i64 ((rd_T30 l1 x9_1).f2)) := (blk_cell BK184.out 2).trans rfl
                      have hfz60_0 := blk_frozen BK184.out 0
                      have hfz60_1 := blk_frozen BK184.out 1
                      have hfz60_2 := blk_frozen BK184.out 2
                      go_wp2_with (first | (go_at_call 10; (with_reducible refine (front_Front_Open.calls g181 x182000_1 x182001_1 x182002_1 x182003_1 x182004_1 x182005_1 ((rd_T30 l1 x9_1).f1) ((rd_T30 l1 x9_1).f2) t185 t186 t187 t188 t189 t190 t191 w _ ?side1 ?side2 A51.out).mono ?_); (case side1 => repeat (first | (with_reducible first | exact HI181.out | apply IsS40.alloc | apply IsS40.drewN | apply IsS40.drew | apply IsS40.set_0 | apply IsS40.set_1 | apply IsS40.set_2 | apply IsS40.set_3 | apply IsS40.set_4 | apply IsS40.set_5 | refine IsS40.far ?_ NB181_173.out _ | refine IsS40.far ?_ NB181_184.out _) | exact HI181.out)); (case side2 => repeat (first | (with_reducible first | exact HB.out | apply below_alloc | apply pw_below_drewN | apply below_drew1 | refine below_set ?_ (IsS40.ge HI181.out) | refine below_set ?_ GE173.out | refine below_set ?_ GE184.out) | exact HB.out)); rintro e w61 ⟨rfl, hi, hb, hk⟩; have n0_ := Aside0.mk (KeepBut.blk hk (g' := gb173) (o := .cells #[.int .i64 a0_0, .int .i64 a0_1, .int .i64 a0_2, .int .i64 a0_3] 23 (0, 0)) (by (with_reducible repeat (first | refine blk_drewN ?_ _ | refine blk_drew ?_ | refine blk_alloc ?_ _)); exact BK173.out) NB173_181.out (by simp)); have n1_ := Aside0.mk (KeepBut.blk hk (g' := gb184) (o := .cells #[.int .i64 ((rd_T30 l1 x9_1).f0), .int .i64 ((rd_T30 l1 x9_1).f1), .int .i64 ((rd_T30 l1 x9_1).f2)] 30 (0, 0)) (by (with_reducible repeat (first | refine blk_drewN ?_ _ | refine blk_drew ?_ | refine blk_alloc ?_ _)); exact BK184.out) NB184_181.out (by simp)); have n2_ := Aside0.mk (hb); have n3_ := Aside0.mk (hi); clear BK173; clear BK184; clear HB; clear HI181; have BK173 := n0_; have BK184 := n1_; have HB := n2_; have HI181 := n3_; clear n0_ n1_ n2_ n3_; (try clear hb); (try clear hb2); (try clear hk); (try clear hi); have hcz62_0 : w61.cell? ⟨gb184, 0, none⟩ = some (.int .i64 ((rd_T30 l1 x9_1).f0)) := (blk_cell BK184.out 0).trans rfl; have hcz62_1 : w61.cell? ⟨gb184, 1, none⟩ = some (.int .i64 ((rd_T30 l1 x9_1).f1)) := (blk_cell BK184.out 1).trans rfl; have hcz62_2 : w61.cell? ⟨gb184, 2, none⟩ = some (.int .i64 ((rd_T30 l1 x9_1).f2)) := (blk_cell BK184.out 2).trans rfl; have hfz62_0 := blk_frozen BK184.out 0; have hfz62_1 := blk_frozen BK184.out 1; have hfz62_2 := blk_frozen BK184.out 2))
                      repeat (go_quiet (first | (go_at_call 10; (with_reducible refine (front_Front_Open.calls g181 x182000_1 x182001_1 x182002_1 x182003_1 x182004_1 x182005_1 ((rd_T30 l1 x9_1).f1) ((rd_T30 l1 x9_1).f2) t185 t186 t187 t188 t189 t190 t191 w _ ?side1 ?side2 A51.out).mono ?_); (case side1 => repeat (first | (with_reducible first | exact HI181.out | apply IsS40.alloc | apply IsS40.drewN | apply IsS40.drew | apply IsS40.set_0 | apply IsS40.set_1 | apply IsS40.set_2 | apply IsS40.set_3 | apply IsS40.set_4 | apply IsS40.set_5 | refine IsS40.far ?_ NB181_173.out _ | refine IsS40.far ?_ NB181_184.out _) | exact HI181.out)); (case side2 => repeat (first | (with_reducible first | exact HB.out | apply below_alloc | apply pw_below_drewN | apply below_drew1 | refine below_set ?_ (IsS40.ge HI181.out) | refine below_set ?_ GE173.out | refine below_set ?_ GE184.out) | exact HB.out)); rintro e w61 ⟨rfl, hi, hb, hk⟩; have n0_ := Aside0.mk (KeepBut.blk hk (g' := gb173) (o := .cells #[.int .i64 a0_0, .int .i64 a0_1, .int .i64 a0_2, .int .i64 a0_3] 23 (0, 0)) (by (with_reducible repeat (first | refine blk_drewN ?_ _ | refine blk_drew ?_ | refine blk_alloc ?_ _)); exact BK173.out) NB173_181.out (by simp)); have n1_ := Aside0.mk (KeepBut.blk hk (g' := gb184) (o := .cells #[.int .i64 ((rd_T30 l1 x9_1).f0), .int .i64 ((rd_T30 l1 x9_1).f1), .int .i64 ((rd_T30 l1 x9_1).f2)] 30 (0, 0)) (by (with_reducible repeat (first | refine blk_drewN ?_ _ | refine blk_drew ?_ | refine blk_alloc ?_ _)); exact BK184.out) NB184_181.out (by simp)); have n2_ := Aside0.mk (hb); have n3_ := Aside0.mk (hi); clear BK173; clear BK184; clear HB; clear HI181; have BK173 := n0_; have BK184 := n1_; have HB := n2_; have HI181 := n3_; clear n0_ n1_ n2_ n3_; (try clear hb); (try clear hb2); (try clear hk); (try clear hi); have hcz62_0 : w61.cell? ⟨gb184, 0, none⟩ = some (.int .i64 ((rd_T30 l1 x9_1).f0)) := (blk_cell BK184.out 0).trans rfl; have hcz62_1 : w61.cell? ⟨gb184, 1, none⟩ = some (.int .i64 ((rd_T30 l1 x9_1).f1)) := (blk_cell BK184.out 1).trans rfl; have hcz62_2 : w61.cell? ⟨gb184, 2, none⟩ = some (.int .i64 ((rd_T30 l1 x9_1).f2)) := (blk_cell BK184.out 2).trans rfl; have hfz62_0 := blk_frozen BK184.out 0; have hfz62_1 := blk_frozen BK184.out 1; have hfz62_2 := blk_frozen BK184.out 2)); try go_wp2_with (first | (go_at_call 10; (with_reducible refine (front_Front_Open.calls g181 x182000_1 x182001_1 x182002_1 x182003_1 x182004_1 x182005_1 ((rd_T30 l1 x9_1).f1) ((rd_T30 l1 x9_1).f2) t185 t186 t187 t188 t189 t190 t191 w _ ?side1 ?side2 A51.out).mono ?_); (case side1 => repeat (first | (with_reducible first | exact HI181.out | apply IsS40.alloc | apply IsS40.drewN | apply IsS40.drew | apply IsS40.set_0 | apply IsS40.set_1 | apply IsS40.set_2 | apply IsS40.set_3 | apply IsS40.set_4 | apply IsS40.set_5 | refine IsS40.far ?_ NB181_173.out _ | refine IsS40.far ?_ NB181_184.out _) | exact HI181.out)); (case side2 => repeat (first | (with_reducible first | exact HB.out | apply below_alloc | apply pw_below_drewN | apply below_drew1 | refine below_set ?_ (IsS40.ge HI181.out) | refine below_set ?_ GE173.out | refine below_set ?_ GE184.out) | exact HB.out)); rintro e w61 ⟨rfl, hi, hb, hk⟩; have n0_ := Aside0.mk (KeepBut.blk hk (g' := gb173) (o := .cells #[.int .i64 a0_0, .int .i64 a0_1, .int .i64 a0_2, .int .i64 a0_3] 23 (0, 0)) (by (with_reducible repeat (first | refine blk_drewN ?_ _ | refine blk_drew ?_ | refine blk_alloc ?_ _)); exact BK173.out) NB173_181.out (by simp)); have n1_ := Aside0.mk (KeepBut.blk hk (g' := gb184) (o := .cells #[.int .i64 ((rd_T30 l1 x9_1).f0), .int .i64 ((rd_T30 l1 x9_1).f1), .int .i64 ((rd_T30 l1 x9_1).f2)] 30 (0, 0)) (by (with_reducible repeat (first | refine blk_drewN ?_ _ | refine blk_drew ?_ | refine blk_alloc ?_ _)); exact BK184.out) NB184_181.out (by simp)); have n2_ := Aside0.mk (hb); have n3_ := Aside0.mk (hi); clear BK173; clear BK184; clear HB; clear HI181; have BK173 := n0_; have BK184 := n1_; have HB := n2_; have HI181 := n3_; clear n0_ n1_ n2_ n3_; (try clear hb); (try clear hb2); (try clear hk); (try clear hi); have hcz62_0 : w61.cell? ⟨gb184, 0, none⟩ = some (.int .i64 ((rd_T30 l1 x9_1).f0)) := (blk_cell BK184.out 0).trans rfl; have hcz62_1 : w61.cell? ⟨gb184, 1, none⟩ = some (.int .i64 ((rd_T30 l1 x9_1).f1)) := (blk_cell BK184.out 1).trans rfl; have hcz62_2 : w61.cell? ⟨gb184, 2, none⟩ = some (.int .i64 ((rd_T30 l1 x9_1).f2)) := (blk_cell BK184.out 2).trans rfl; have hfz62_0 := blk_frozen BK184.out 0; have hfz62_1 := blk_frozen BK184.out 1; have hfz62_2 := blk_frozen BK184.out 2)))
                      go_meet
                      case rel => exact ⟨_, (((rd_T30 l1 x9_1).f1)), (((rd_T30 l1 x9_1).f2)), (t186), (t187), (t188), (t189), (t190), (t191), (by first | rfl | (simp; done) | (simp [*]; done)), (by first | rfl | (simp; done) | (simp [*]; done)), H', ⟨by have := HK1.out; have := HJ23.out; have := HJ26.out; first | omega | exact Nat.le_refl _⟩, ⟨by (with_reducible repeat (first | refine blk_drewN ?_ _ | refine blk_drew ?_ | refine blk_alloc ?_ _)); exact BK173.out⟩, ⟨by (with_reducible repeat (first | refine blk_drewN ?_ _ | refine blk_drew ?_ | refine blk_alloc ?_ _)); exact BK184.out⟩, ⟨by repeat (first | (with_reducible first | exact HI181.out | apply IsS40.alloc | apply IsS40.drewN | apply IsS40.drew | apply IsS40.set_0 | apply IsS40.set_1 | apply IsS40.set_2 | apply IsS40.set_3 | apply IsS40.set_4 | apply IsS40.set_5 | refine IsS40.far ?_ NB181_173.out _ | refine IsS40.far ?_ NB181_184.out _) | exact HI181.out)⟩, ⟨by repeat (first | (with_reducible first | exact HB.out | apply below_alloc | apply pw_below_drewN | apply below_drew1 | refine below_set ?_ (IsS40.ge HI181.out) | refine below_set ?_ GE173.out | refine below_set ?_ GE184.out) | exact HB.out)⟩⟩
                    ·
                     as_aux_lemma =>
                      replace c57 := Bool.eq_false_iff.mpr c57
                      subst c57
                      have H1 : (blackboardlaw17_FrontPlays.j7 kj26 l1 t182 x7_1 x8_1 x9_1 a0_0 a0_1 a0_2 a0_3 t186 t187 t188 t189 t190 t191) = some r := by rw [if_neg (show ¬ (false = true) by decide)] at H; exact H
                      clear H
                      have H := H1
                      clear H1
                      have H' := Aside0.mk H
                      clear H
                      have hnb63 := NB184_173.out
                      have hnc63 := NB173_184.out
                      have hnb64 := NB184_181.out
                      have hnc64 := NB181_184.out
                      have hcz65_0 : wc.cell? ⟨gb184, 0, none⟩ = some (.int .i64 ((rd_T30 l1 x9_1).f0)) := (blk_cell BK184.out 0).trans rfl
                      have hcz65_1 : wc.cell? ⟨gb184, 1, none⟩ = some (.int .i64 ((rd_T30 l1 x9_1).f1)) := (blk_cell BK184.out 1).trans rfl
                      have hcz65_2 : wc.cell? ⟨gb184, 2, none⟩ = some (.int .i64 ((rd_T30 l1 x9_1).f2)) := (blk_cell BK184.out 2).trans rfl
                      have hfz65_0 := blk_frozen BK184.out 0
                      have hfz65_1 := blk_frozen BK184.out 1
                      have hfz65_2 := blk_frozen BK184.out 2
                      go_wp2_with (first | (go_at_call 10; (with_reducible refine (front_Front_Open.calls g181 x182000_1 x182001_1 x182002_1 x182003_1 x182004_1 x182005_1 ((rd_T30 l1 x9_1).f1) ((rd_T30 l1 x9_1).f2) t185 t186 t187 t188 t189 t190 t191 w _ ?side1 ?side2 A51.out).mono ?_); (case side1 => repeat (first | (with_reducible first | exact HI181.out | apply IsS40.alloc | apply IsS40.drewN | apply IsS40.drew | apply IsS40.set_0 | apply IsS40.set_1 | apply IsS40.set_2 | apply IsS40.set_3 | apply IsS40.set_4 | apply IsS40.set_5 | refine IsS40.far ?_ NB181_173.out _ | refine IsS40.far ?_ NB181_184.out _) | exact HI181.out)); (case side2 => repeat (first | (with_reducible first | exact HB.out | apply below_alloc | apply pw_below_drewN | apply below_drew1 | refine below_set ?_ (IsS40.ge HI181.out) | refine below_set ?_ GE173.out | refine below_set ?_ GE184.out) | exact HB.out)); rintro e w66 ⟨rfl, hi, hb, hk⟩; have n0_ := Aside0.mk (KeepBut.blk hk (g' := gb173) (o := .cells #[.int .i64 a0_0, .int .i64 a0_1, .int .i64 a0_2, .int .i64 a0_3] 23 (0, 0)) (by (with_reducible repeat (first | refine blk_drewN ?_ _ | refine blk_drew ?_ | refine blk_alloc ?_ _)); exact BK173.out) NB173_181.out (by simp)); have n1_ := Aside0.mk (KeepBut.blk hk (g' := gb184) (o := .cells #[.int .i64 ((rd_T30 l1 x9_1).f0), .int .i64 ((rd_T30 l1 x9_1).f1), .int .i64 ((rd_T30 l1 x9_1).f2)] 30 (0, 0)) (by (with_reducible repeat (first | refine blk_drewN ?_ _ | refine blk_drew ?_ | refine blk_alloc ?_ _)); exact BK184.out) NB184_181.out (by simp)); have n2_ := Aside0.mk (hb); have n3_ := Aside0.mk (hi); clear BK173; clear BK184; clear HB; clear HI181; have BK173 := n0_; have BK184 := n1_; have HB := n2_; have HI181 := n3_; clear n0_ n1_ n2_ n3_; (try clear hb); (try clear hb2); (try clear hk); (try clear hi)))
                      repeat (go_quiet (first | (go_at_call 10; (with_reducible refine (front_Front_Open.calls g181 x182000_1 x182001_1 x182002_1 x182003_1 x182004_1 x182005_1 ((rd_T30 l1 x9_1).f1) ((rd_T30 l1 x9_1).f2) t185 t186 t187 t188 t189 t190 t191 w _ ?side1 ?side2 A51.out).mono ?_); (case side1 => repeat (first | (with_reducible first | exact HI181.out | apply IsS40.alloc | apply IsS40.drewN | apply IsS40.drew | apply IsS40.set_0 | apply IsS40.set_1 | apply IsS40.set_2 | apply IsS40.set_3 | apply IsS40.set_4 | apply IsS40.set_5 | refine IsS40.far ?_ NB181_173.out _ | refine IsS40.far ?_ NB181_184.out _) | exact HI181.out)); (case side2 => repeat (first | (with_reducible first | exact HB.out | apply below_alloc | apply pw_below_drewN | apply below_drew1 | refine below_set ?_ (IsS40.ge HI181.out) | refine below_set ?_ GE173.out | refine below_set ?_ GE184.out) | exact HB.out)); rintro e w66 ⟨rfl, hi, hb, hk⟩; have n0_ := Aside0.mk (KeepBut.blk hk (g' := gb173) (o := .cells #[.int .i64 a0_0, .int .i64 a0_1, .int .i64 a0_2, .int .i64 a0_3] 23 (0, 0)) (by (with_reducible repeat (first | refine blk_drewN ?_ _ | refine blk_drew ?_ | refine blk_alloc ?_ _)); exact BK173.out) NB173_181.out (by simp)); have n1_ := Aside0.mk (KeepBut.blk hk (g' := gb184) (o := .cells #[.int .i64 ((rd_T30 l1 x9_1).f0), .int .i64 ((rd_T30 l1 x9_1).f1), .int .i64 ((rd_T30 l1 x9_1).f2)] 30 (0, 0)) (by (with_reducible repeat (first | refine blk_drewN ?_ _ | refine blk_drew ?_ | refine blk_alloc ?_ _)); exact BK184.out) NB184_181.out (by simp)); have n2_ := Aside0.mk (hb); have n3_ := Aside0.mk (hi); clear BK173; clear BK184; clear HB; clear HI181; have BK173 := n0_; have BK184 := n1_; have HB := n2_; have HI181 := n3_; clear n0_ n1_ n2_ n3_; (try clear hb); (try clear hb2); (try clear hk); (try clear hi))); try go_wp2_with (first | (go_at_call 10; (with_reducible refine (front_Front_Open.calls g181 x182000_1 x182001_1 x182002_1 x182003_1 x182004_1 x182005_1 ((rd_T30 l1 x9_1).f1) ((rd_T30 l1 x9_1).f2) t185 t186 t187 t188 t189 t190 t191 w _ ?side1 ?side2 A51.out).mono ?_); (case side1 => repeat (first | (with_reducible first | exact HI181.out | apply IsS40.alloc | apply IsS40.drewN | apply IsS40.drew | apply IsS40.set_0 | apply IsS40.set_1 | apply IsS40.set_2 | apply IsS40.set_3 | apply IsS40.set_4 | apply IsS40.set_5 | refine IsS40.far ?_ NB181_173.out _ | refine IsS40.far ?_ NB181_184.out _) | exact HI181.out)); (case side2 => repeat (first | (with_reducible first | exact HB.out | apply below_alloc | apply pw_below_drewN | apply below_drew1 | refine below_set ?_ (IsS40.ge HI181.out) | refine below_set ?_ GE173.out | refine below_set ?_ GE184.out) | exact HB.out)); rintro e w66 ⟨rfl, hi, hb, hk⟩; have n0_ := Aside0.mk (KeepBut.blk hk (g' := gb173) (o := .cells #[.int .i64 a0_0, .int .i64 a0_1, .int .i64 a0_2, .int .i64 a0_3] 23 (0, 0)) (by (with_reducible repeat (first | refine blk_drewN ?_ _ | refine blk_drew ?_ | refine blk_alloc ?_ _)); exact BK173.out) NB173_181.out (by simp)); have n1_ := Aside0.mk (KeepBut.blk hk (g' := gb184) (o := .cells #[.int .i64 ((rd_T30 l1 x9_1).f0), .int .i64 ((rd_T30 l1 x9_1).f1), .int .i64 ((rd_T30 l1 x9_1).f2)] 30 (0, 0)) (by (with_reducible repeat (first | refine blk_drewN ?_ _ | refine blk_drew ?_ | refine blk_alloc ?_ _)); exact BK184.out) NB184_181.out (by simp)); have n2_ := Aside0.mk (hb); have n3_ := Aside0.mk (hi); clear BK173; clear BK184; clear HB; clear HI181; have BK173 := n0_; have BK184 := n1_; have HB := n2_; have HI181 := n3_; clear n0_ n1_ n2_ n3_; (try clear hb); (try clear hb2); (try clear hk); (try clear hi))))
                      go_meet
                      case rel => exact ⟨_, (x7_1), (x8_1), (t186), (t187), (t188), (t189), (t190), (t191), (by first | rfl | (simp; done) | (simp [*]; done)), (by first | rfl | (simp; done) | (simp [*]; done)), H', ⟨by have := HK1.out; have := HJ23.out; have := HJ26.out; first | omega | exact Nat.le_refl _⟩, ⟨by (with_reducible repeat (first | refine blk_drewN ?_ _ | refine blk_drew ?_ | refine blk_alloc ?_ _)); exact BK173.out⟩, ⟨by (with_reducible repeat (first | refine blk_drewN ?_ _ | refine blk_drew ?_ | refine blk_alloc ?_ _)); exact BK184.out⟩, ⟨by repeat (first | (with_reducible first | exact HI181.out | apply IsS40.alloc | apply IsS40.drewN | apply IsS40.drew | apply IsS40.set_0 | apply IsS40.set_1 | apply IsS40.set_2 | apply IsS40.set_3 | apply IsS40.set_4 | apply IsS40.set_5 | refine IsS40.far ?_ NB181_173.out _ | refine IsS40.far ?_ NB181_184.out _) | exact HI181.out)⟩, ⟨by repeat (first | (with_reducible first | exact HB.out | apply below_alloc | apply pw_below_drewN | apply below_drew1 | refine below_set ?_ (IsS40.ge HI181.out) | refine below_set ?_ GE173.out | refine below_set ?_ GE184.out) | exact HB.out)⟩⟩
              ·
               as_aux_lemma =>
                replace c26 := Bool.eq_false_iff.mpr c26
                subst c26
                have H1 : (if ((rd_T30 l1 x9_1).f0) = 2 then (blackboardlaw17_FrontPlays.j3 kj23 l1 t182 x7_1 x8_1 x9_1 ((rd_T30 l1 x9_1).f0) (((rd_T30 l1 x9_1).f0) == 2) a0_0 a0_1 a0_2 a0_3 x182000_1 x182001_1 x182002_1 x182003_1 x182004_1 x182005_1 ((rd_T30 l1 x9_1).f0) ((rd_T30 l1 x9_1).f1) ((rd_T30 l1 x9_1).f2)) else (if ((rd_T30 l1 x9_1).f0) = 3 then (blackboardlaw17_FrontPlays.j3 kj23 l1 t182 x7_1 x8_1 x9_1 ((rd_T30 l1 x9_1).f0) (((rd_T30 l1 x9_1).f0) == 3) a0_0 a0_1 a0_2 a0_3 x182000_1 x182001_1 x182002_1 x182003_1 x182004_1 x182005_1 ((rd_T30 l1 x9_1).f0) ((rd_T30 l1 x9_1).f1) ((rd_T30 l1 x9_1).f2)) else (if ((rd_T30 l1 x9_1).f0) = 4 then (blackboardlaw17_FrontPlays.j3 kj23 l1 t182 x7_1 x8_1 x9_1 ((rd_T30 l1 x9_1).f0) (((rd_T30 l1 x9_1).f0) == 4) a0_0 a0_1 a0_2 a0_3 x182000_1 x182001_1 x182002_1 x182003_1 x182004_1 x182005_1 ((rd_T30 l1 x9_1).f0) ((rd_T30 l1 x9_1).f1) ((rd_T30 l1 x9_1).f2)) else (blackboardlaw17_FrontPlays.j3 kj23 l1 t182 x7_1 x8_1 x9_1 ((rd_T30 l1 x9_1).f0) (((rd_T30 l1 x9_1).f0) == 5) a0_0 a0_1 a0_2 a0_3 x182000_1 x182001_1 x182002_1 x182003_1 x182004_1 x182005_1 ((rd_T30 l1 x9_1).f0) ((rd_T30 l1 x9_1).f1) ((rd_T30 l1 x9_1).f2))))) = some r := by rw [if_neg (show ¬ (false = true) by decide)] at H; exact H
                clear H
                have H := H1
                clear H1
                have HC67 := Aside0.mk H
                clear H
                go_upto_if 84 with (fail)
                repeat (go_quiet (fail); go_upto_if 84 with (fail))
                go_cut [84] (fun v84 wc => ∃ (kq : Nat) (x84_66 : Bool), v84 = .bool x84_66 ∧ Aside0 (blackboardlaw17_FrontPlays.j3 kq l1 t182 x7_1 x8_1 x9_1 ((rd_T30 l1 x9_1).f0) x84_66 a0_0 a0_1 a0_2 a0_3 x182000_1 x182001_1 x182002_1 x182003_1 x182004_1 x182005_1 ((rd_T30 l1 x9_1).f0) ((rd_T30 l1 x9_1).f1) ((rd_T30 l1 x9_1).f2) = some r) ∧ Aside0 (kq ≤ kj23) ∧ Aside0 (wc.heap[gb173]? = some (.cells #[.int .i64 a0_0, .int .i64 a0_1, .int .i64 a0_2, .int .i64 a0_3] 23 (0, 0))) ∧ Aside0 (wc.heap[gb184]? = some (.cells #[.int .i64 ((rd_T30 l1 x9_1).f0), .int .i64 ((rd_T30 l1 x9_1).f1), .int .i64 ((rd_T30 l1 x9_1).f2)] 30 (0, 0))) ∧ Aside0 (IsS40 w wc g181 x182000_1 x182001_1 x182002_1 x182003_1 x182004_1 x182005_1) ∧ Aside0 (Below w.heap.size w wc))
                case first =>
                 have H := HC67.out
                 clear HC67
                 by_cases c68 : ((rd_T30 l1 x9_1).f0) = 2
                 ·
                  rw [if_pos c68] at H
                  have c68b0 : (((rd_T30 l1 x9_1).f0) == 2) = true := beq_iff_eq.mpr c68
                  have c68b1 : (((rd_T30 l1 x9_1).f0) != 2) = false := bne_eq_false_iff_eq.mpr c68
                  clear c68
                  (first | rw [c68b0] | (simp only [i64_w, i32_w]; rw [c68b0]) | skip)
                  have H' := Aside0.mk H
                  clear H
                  go_wp2
                  repeat (go_quiet (fail); try go_wp2)
                  go_meet
                  case rel => exact ⟨_, ((((rd_T30 l1 x9_1).f0) == 2)), (by first | rfl | (simp; done) | (simp [*]; done)), H', ⟨by have := HK1.out; have := HJ23.out; first | omega | exact Nat.le_refl _⟩, ⟨by (with_reducible repeat (first | refine blk_drewN ?_ _ | refine blk_drew ?_ | refine blk_alloc ?_ _)); exact BK173.out⟩, ⟨by (with_reducible repeat (first | refine blk_drewN ?_ _ | refine blk_drew ?_ | refine blk_alloc ?_ _)); exact BK184.out⟩, ⟨by repeat (first | (with_reducible first | exact HI181.out | apply IsS40.alloc | apply IsS40.drewN | apply IsS40.drew | apply IsS40.set_0 | apply IsS40.set_1 | apply IsS40.set_2 | apply IsS40.set_3 | apply IsS40.set_4 | apply IsS40.set_5 | refine IsS40.far ?_ NB181_173.out _ | refine IsS40.far ?_ NB181_184.out _) | exact HI181.out)⟩, ⟨by repeat (first | (with_reducible first | exact HB.out | apply below_alloc | apply pw_below_drewN | apply below_drew1 | refine below_set ?_ (IsS40.ge HI181.out) | refine below_set ?_ GE173.out | refine below_set ?_ GE184.out) | exact HB.out)⟩⟩
                 ·
                  rw [if_neg c68] at H
                  have c68b0 : (((rd_T30 l1 x9_1).f0) == 2) = false := beq_eq_false_iff_ne.mpr c68
                  have c68b1 : (((rd_T30 l1 x9_1).f0) != 2) = true := bne_iff_ne.mpr c68
                  (first | rw [c68b0] | (simp only [i64_w, i32_w]; rw [c68b0]) | skip)
                  by_cases c69 : ((rd_T30 l1 x9_1).f0) = 3
                  ·
                   rw [if_pos c69] at H
                   have c69b0 : (((rd_T30 l1 x9_1).f0) == 3) = true := beq_iff_eq.mpr c69
                   have c69b1 : (((rd_T30 l1 x9_1).f0) != 3) = false := bne_eq_false_iff_eq.mpr c69
                   clear c69
                   have H' := Aside0.mk H
                   clear H
                   go_wp2
                   repeat (go_quiet (fail); try go_wp2)
                   go_meet
                   case rel => exact ⟨_, ((((rd_T30 l1 x9_1).f0) == 3)), (by first | rfl | (simp; done) | (simp [*]; done)), H', ⟨by have := HK1.out; have := HJ23.out; first | omega | exact Nat.le_refl _⟩, ⟨by (with_reducible repeat (first | refine blk_drewN ?_ _ | refine blk_drew ?_ | refine blk_alloc ?_ _)); exact BK173.out⟩, ⟨by (with_reducible repeat (first | refine blk_drewN ?_ _ | refine blk_drew ?_ | refine blk_alloc ?_ _)); exact BK184.out⟩, ⟨by repeat (first | (with_reducible first | exact HI181.out | apply IsS40.alloc | apply IsS40.drewN | apply IsS40.drew | apply IsS40.set_0 | apply IsS40.set_1 | apply IsS40.set_2 | apply IsS40.set_3 | apply IsS40.set_4 | apply IsS40.set_5 | refine IsS40.far ?_ NB181_173.out _ | refine IsS40.far ?_ NB181_184.out _) | exact HI181.out)⟩, ⟨by repeat (first | (with_reducible first | exact HB.out | apply below_alloc | apply pw_below_drewN | apply below_drew1 | refine below_set ?_ (IsS40.ge HI181.out) | refine below_set ?_ GE173.out | refine below_set ?_ GE184.out) | exact HB.out)⟩⟩
                  ·
                   rw [if_neg c69] at H
                   have c69b0 : (((rd_T30 l1 x9_1).f0) == 3) = false := beq_eq_false_iff_ne.mpr c69
                   have c69b1 : (((rd_T30 l1 x9_1).f0) != 3) = true := bne_iff_ne.mpr c69
                   by_cases c70 : ((rd_T30 l1 x9_1).f0) = 4
                   ·
                    rw [if_pos c70] at H
                    have c70b0 : (((rd_T30 l1 x9_1).f0) == 4) = true := beq_iff_eq.mpr c70
                    have c70b1 : (((rd_T30 l1 x9_1).f0) != 4) = false := bne_eq_false_iff_eq.mpr c70
                    clear c70
                    have H' := Aside0.mk H
                    clear H
                    go_wp2
                    repeat (go_quiet (fail); try go_wp2)
                    go_meet
                    case rel => exact ⟨_, ((((rd_T30 l1 x9_1).f0) == 4)), (by first | rfl | (simp; done) | (simp [*]; done)), H', ⟨by have := HK1.out; have := HJ23.out; first | omega | exact Nat.le_refl _⟩, ⟨by (with_reducible repeat (first | refine blk_drewN ?_ _ | refine blk_drew ?_ | refine blk_alloc ?_ _)); exact BK173.out⟩, ⟨by (with_reducible repeat (first | refine blk_drewN ?_ _ | refine blk_drew ?_ | refine blk_alloc ?_ _)); exact BK184.out⟩, ⟨by repeat (first | (with_reducible first | exact HI181.out | apply IsS40.alloc | apply IsS40.drewN | apply IsS40.drew | apply IsS40.set_0 | apply IsS40.set_1 | apply IsS40.set_2 | apply IsS40.set_3 | apply IsS40.set_4 | apply IsS40.set_5 | refine IsS40.far ?_ NB181_173.out _ | refine IsS40.far ?_ NB181_184.out _) | exact HI181.out)⟩, ⟨by repeat (first | (with_reducible first | exact HB.out | apply below_alloc | apply pw_below_drewN | apply below_drew1 | refine below_set ?_ (IsS40.ge HI181.out) | refine below_set ?_ GE173.out | refine below_set ?_ GE184.out) | exact HB.out)⟩⟩
                   ·
                    rw [if_neg c70] at H
                    have c70b0 : (((rd_T30 l1 x9_1).f0) == 4) = false := beq_eq_false_iff_ne.mpr c70
                    have c70b1 : (((rd_T30 l1 x9_1).f0) != 4) = true := bne_iff_ne.mpr c70
                    have H' := Aside0.mk H
                    clear H
                    go_wp2
                    repeat (go_quiet (fail); try go_wp2)
                    go_meet
                    case rel => exact ⟨_, ((((rd_T30 l1 x9_1).f0) == 5)), (by first | rfl | (simp; done) | (simp [*]; done)), H', ⟨by have := HK1.out; have := HJ23.out; first | omega | exact Nat.le_refl _⟩, ⟨by (with_reducible repeat (first | refine blk_drewN ?_ _ | refine blk_drew ?_ | refine blk_alloc ?_ _)); exact BK173.out⟩, ⟨by (with_reducible repeat (first | refine blk_drewN ?_ _ | refine blk_drew ?_ | refine blk_alloc ?_ _)); exact BK184.out⟩, ⟨by repeat (first | (with_reducible first | exact HI181.out | apply IsS40.alloc | apply IsS40.drewN | apply IsS40.drew | apply IsS40.set_0 | apply IsS40.set_1 | apply IsS40.set_2 | apply IsS40.set_3 | apply IsS40.set_4 | apply IsS40.set_5 | refine IsS40.far ?_ NB181_173.out _ | refine IsS40.far ?_ NB181_184.out _) | exact HI181.out)⟩, ⟨by repeat (first | (with_reducible first | exact HB.out | apply below_alloc | apply pw_below_drewN | apply below_drew1 | refine below_set ?_ (IsS40.ge HI181.out) | refine below_set ?_ GE173.out | refine below_set ?_ GE184.out) | exact HB.out)⟩⟩
                case rest =>
                 clear HC67
                 try clear c1
                 try clear p1
                 try clear q1
                 try clear hx1
                 try clear c2
                 try clear p2
                 try clear c3
                 try clear c4
                 try clear c5
                 try clear c5b0
                 try clear c5b1
                 try clear c6
                 try clear c7
                 try clear c14
                 try clear c17
                 try clear c17b0
                 try clear c18
                 try clear c18b0
                 try clear p18
                 try clear q18
                 try clear hx18
                 try clear c21
                 try clear c22
                 try clear c25
                 try clear c25b0
                 try clear c25b1
                 try clear c26
                 try clear c28
                 try clear c29
                 try clear c29b0
                 try clear c30
                 try clear c30b0
                 try clear c31
                 try clear c31b0
                 try clear c32
                 try clear c32b0
                 try clear c33
                 try clear c34
                 try clear c36
                 try clear c38
                 try clear c39
                 try clear c41
                 try clear c43
                 try clear c44
                 try clear c46
                 try clear c48
                 try clear c49
                 try clear c52
                 try clear c52b0
                 try clear c52b1
                 try clear c52b2
                 try clear c53
                 try clear c54
                 try clear c57
                 try clear c58
                 try clear c59
                 try clear c63
                 try clear c64
                 try clear c68
                 try clear c68b0
                 try clear c68b1
                 try clear c69
                 try clear c69b0
                 try clear c69b1
                 try clear c70
                 try clear c70b0
                 try clear c70b1
                 try clear hcz12_0
                 try clear hcz12_1
                 try clear hcz12_2
                 try clear hcz12_3
                 try clear hcz15_0
                 try clear hcz15_1
                 try clear hcz15_2
                 try clear hcz15_3
                 try clear hcz23_0
                 try clear hcz23_1
                 try clear hcz23_2
                 try clear hcz35_0
                 try clear hcz35_1
                 try clear hcz35_2
                 try clear hcz37_0
                 try clear hcz37_1
                 try clear hcz37_2
                 try clear hcz37_3
                 try clear hcz40_0
                 try clear hcz40_1
                 try clear hcz40_2
                 try clear hcz42_0
                 try clear hcz42_1
                 try clear hcz42_2
                 try clear hcz42_3
                 try clear hcz45_0
                 try clear hcz45_1
                 try clear hcz45_2
                 try clear hcz47_0
                 try clear hcz47_1
                 try clear hcz47_2
                 try clear hcz47_3
                 try clear hcz50_0
                 try clear hcz50_1
                 try clear hcz50_2
                 try clear hcz55_0
                 try clear hcz55_1
                 try clear hcz55_2
                 try clear hcz60_0
                 try clear hcz60_1
                 try clear hcz60_2
                 try clear hcz62_0
                 try clear hcz62_1
                 try clear hcz62_2
                 try clear hcz65_0
                 try clear hcz65_1
                 try clear hcz65_2
                 try clear hfz12_0
                 try clear hfz12_1
                 try clear hfz12_2
                 try clear hfz12_3
                 try clear hfz15_0
                 try clear hfz15_1
                 try clear hfz15_2
                 try clear hfz15_3
                 try clear hfz23_0
                 try clear hfz23_1
                 try clear hfz23_2
                 try clear hfz35_0
                 try clear hfz35_1
                 try clear hfz35_2
                 try clear hfz37_0
                 try clear hfz37_1
                 try clear hfz37_2
                 try clear hfz37_3
                 try clear hfz40_0
                 try clear hfz40_1
                 try clear hfz40_2
                 try clear hfz42_0
                 try clear hfz42_1
                 try clear hfz42_2
                 try clear hfz42_3
                 try clear hfz45_0
                 try clear hfz45_1
                 try clear hfz45_2
                 try clear hfz47_0
                 try clear hfz47_1
                 try clear hfz47_2
                 try clear hfz47_3
                 try clear hfz50_0
                 try clear hfz50_1
                 try clear hfz50_2
                 try clear hfz55_0
                 try clear hfz55_1
                 try clear hfz55_2
                 try clear hfz60_0
                 try clear hfz60_1
                 try clear hfz60_2
                 try clear hfz62_0
                 try clear hfz62_1
                 try clear hfz62_2
                 try clear hfz65_0
                 try clear hfz65_1
                 try clear hfz65_2
                 try clear hx183_0
                 try clear hx183_1
                 try clear hx183_2
                 try clear p1
                 try clear p18
                 try clear p183
                 try clear p2
                 try clear q1
                 try clear q18
                 try clear q183
                 obtain ⟨kq, x84_66, rfl, HA, HJ66, BK173, BK184, HI181, HB⟩ := hcut
                 cases kq with
                 | zero => exact absurd HA.out (by simp [blackboardlaw17_FrontPlays.j3])
                 | succ kj66 =>
                  have H := HA.out
                  clear HA
                  simp only [blackboardlaw17_FrontPlays.j3] at H
                  by_cases c71 : x84_66 = true
                  ·
                   as_aux_lemma =>
                    subst c71
                    have H1 : ((front_Front_Next.f x182000_1 x182001_1 x182002_1 x182003_1 x182004_1 x182005_1).bind fun bt192 => (if ((rd_T30 l1 x9_1).f0) > 2 then ((front_Front_Take.f bt192.2.2.2.1 bt192.2.2.2.2.1 bt192.2.2.2.2.2.1 bt192.2.2.2.2.2.2.1 bt192.2.2.2.2.2.2.2.1 bt192.2.2.2.2.2.2.2.2).bind fun bt201 => (blackboardlaw17_FrontPlays.j4 kj66 l1 t182 x7_1 x8_1 x9_1 bt201.1 bt201.2.1 bt201.2.2.1 a0_0 a0_1 a0_2 a0_3 bt201.2.2.2.1 bt201.2.2.2.2.1 bt201.2.2.2.2.2.1 bt201.2.2.2.2.2.2.1 bt201.2.2.2.2.2.2.2.1 bt201.2.2.2.2.2.2.2.2 ((rd_T30 l1 x9_1).f0) ((rd_T30 l1 x9_1).f1) ((rd_T30 l1 x9_1).f2))) else (blackboardlaw17_FrontPlays.j4 kj66 l1 t182 x7_1 x8_1 x9_1 bt192.1 bt192.2.1 bt192.2.2.1 a0_0 a0_1 a0_2 a0_3 bt192.2.2.2.1 bt192.2.2.2.2.1 bt192.2.2.2.2.2.1 bt192.2.2.2.2.2.2.1 bt192.2.2.2.2.2.2.2.1 bt192.2.2.2.2.2.2.2.2 ((rd_T30 l1 x9_1).f0) ((rd_T30 l1 x9_1).f1) ((rd_T30 l1 x9_1).f2)))) = some r := by rw [if_pos rfl] at H; exact H
                    clear H
                    have H := H1
                    clear H1
                    replace H := Option.bind_eq_some_iff.mp H
                    obtain ⟨⟨t192, t193, t194, t195, t196, t197, t198, t199, t200⟩, A720, H⟩ := H
                    replace H : (if ((rd_T30 l1 x9_1).f0) > 2 then ((front_Front_Take.f t195 t196 t197 t198 t199 t200).bind fun bt201 => (blackboardlaw17_FrontPlays.j4 kj66 l1 t182 x7_1 x8_1 x9_1 bt201.1 bt201.2.1 bt201.2.2.1 a0_0 a0_1 a0_2 a0_3 bt201.2.2.2.1 bt201.2.2.2.2.1 bt201.2.2.2.2.2.1 bt201.2.2.2.2.2.2.1 bt201.2.2.2.2.2.2.2.1 bt201.2.2.2.2.2.2.2.2 ((rd_T30 l1 x9_1).f0) ((rd_T30 l1 x9_1).f1) ((rd_T30 l1 x9_1).f2))) else (blackboardlaw17_FrontPlays.j4 kj66 l1 t182 x7_1 x8_1 x9_1 t192 t193 t194 a0_0 a0_1 a0_2 a0_3 t195 t196 t197 t198 t199 t200 ((rd_T30 l1 x9_1).f0) ((rd_T30 l1 x9_1).f1) ((rd_T30 l1 x9_1).f2))) = some r := H
                    have A72 := Aside0.mk A720
                    clear A720
                    have HC73 := Aside0.mk H
                    clear H
                    go_upto_if 97 with (first | (go_at_call 11; (with_reducible refine (front_Front_Next.calls g181 x182000_1 x182001_1 x182002_1 x182003_1 x182004_1 x182005_1 t192 t193 t194 t195 t196 t197 t198 t199 t200 w _ ?side1 ?side2 A72.out).mono ?_); (case side1 => repeat (first | (with_reducible first | exact HI181.out | apply IsS40.alloc | apply IsS40.drewN | apply IsS40.drew | apply IsS40.set_0 | apply IsS40.set_1 | apply IsS40.set_2 | apply IsS40.set_3 | apply IsS40.set_4 | apply IsS40.set_5 | refine IsS40.far ?_ NB181_173.out _ | refine IsS40.far ?_ NB181_184.out _) | exact HI181.out)); (case side2 => repeat (first | (with_reducible first | exact HB.out | apply below_alloc | apply pw_below_drewN | apply below_drew1 | refine below_set ?_ (IsS40.ge HI181.out) | refine below_set ?_ GE173.out | refine below_set ?_ GE184.out) | exact HB.out)); rintro e w74 ⟨rfl, hi, hb, hk⟩; have n0_ := Aside0.mk (KeepBut.blk hk (g' := gb173) (o := .cells #[.int .i64 a0_0, .int .i64 a0_1, .int .i64 a0_2, .int .i64 a0_3] 23 (0, 0)) (by (with_reducible repeat (first | refine blk_drewN ?_ _ | refine blk_drew ?_ | refine blk_alloc ?_ _)); exact BK173.out) NB173_181.out (by simp)); have n1_ := Aside0.mk (KeepBut.blk hk (g' := gb184) (o := .cells #[.int .i64 ((rd_T30 l1 x9_1).f0), .int .i64 ((rd_T30 l1 x9_1).f1), .int .i64 ((rd_T30 l1 x9_1).f2)] 30 (0, 0)) (by (with_reducible repeat (first | refine blk_drewN ?_ _ | refine blk_drew ?_ | refine blk_alloc ?_ _)); exact BK184.out) NB184_181.out (by simp)); have n2_ := Aside0.mk (hb); have n3_ := Aside0.mk (hi); clear BK173; clear BK184; clear HB; clear HI181; have BK173 := n0_; have BK184 := n1_; have HB := n2_; have HI181 := n3_; clear n0_ n1_ n2_ n3_; (try clear hb); (try clear hb2); (try clear hk); (try clear hi); have hnb75 := NB184_173.out; have hnc75 := NB173_184.out; have hnb76 := NB184_181.out; have hnc76 := NB181_184.out; have hcz77_0 : w74.cell? ⟨gb184, 0, none⟩ = some (.int .i64 ((rd_T30 l1 x9_1).f0)) := (blk_cell BK184.out 0).trans rfl; have hcz77_1 : w74.cell? ⟨gb184, 1, none⟩ = some (.int .i64 ((rd_T30 l1 x9_1).f1)) := (blk_cell BK184.out 1).trans rfl; have hcz77_2 : w74.cell? ⟨gb184, 2, none⟩ = some (.int .i64 ((rd_T30 l1 x9_1).f2)) := (blk_cell BK184.out 2).trans rfl; have hfz77_0 := blk_frozen BK184.out 0; have hfz77_1 := blk_frozen BK184.out 1; have hfz77_2 := blk_frozen BK184.out 2))
                    repeat (go_quiet (first | (go_at_call 11; (with_reducible refine (front_Front_Next.calls g181 x182000_1 x182001_1 x182002_1 x182003_1 x182004_1 x182005_1 t192 t193 t194 t195 t196 t197 t198 t199 t200 w _ ?side1 ?side2 A72.out).mono ?_); (case side1 => repeat (first | (with_reducible first | exact HI181.out | apply IsS40.alloc | apply IsS40.drewN | apply IsS40.drew | apply IsS40.set_0 | apply IsS40.set_1 | apply IsS40.set_2 | apply IsS40.set_3 | apply IsS40.set_4 | apply IsS40.set_5 | refine IsS40.far ?_ NB181_173.out _ | refine IsS40.far ?_ NB181_184.out _) | exact HI181.out)); (case side2 => repeat (first | (with_reducible first | exact HB.out | apply below_alloc | apply pw_below_drewN | apply below_drew1 | refine below_set ?_ (IsS40.ge HI181.out) | refine below_set ?_ GE173.out | refine below_set ?_ GE184.out) | exact HB.out)); rintro e w74 ⟨rfl, hi, hb, hk⟩; have n0_ := Aside0.mk (KeepBut.blk hk (g' := gb173) (o := .cells #[.int .i64 a0_0, .int .i64 a0_1, .int .i64 a0_2, .int .i64 a0_3] 23 (0, 0)) (by (with_reducible repeat (first | refine blk_drewN ?_ _ | refine blk_drew ?_ | refine blk_alloc ?_ _)); exact BK173.out) NB173_181.out (by simp)); have n1_ := Aside0.mk (KeepBut.blk hk (g' := gb184) (o := .cells #[.int .i64 ((rd_T30 l1 x9_1).f0), .int .i64 ((rd_T30 l1 x9_1).f1), .int .i64 ((rd_T30 l1 x9_1).f2)] 30 (0, 0)) (by (with_reducible repeat (first | refine blk_drewN ?_ _ | refine blk_drew ?_ | refine blk_alloc ?_ _)); exact BK184.out) NB184_181.out (by simp)); have n2_ := Aside0.mk (hb); have n3_ := Aside0.mk (hi); clear BK173; clear BK184; clear HB; clear HI181; have BK173 := n0_; have BK184 := n1_; have HB := n2_; have HI181 := n3_; clear n0_ n1_ n2_ n3_; (try clear hb); (try clear hb2); (try clear hk); (try clear hi); have hnb75 := NB184_173.out; have hnc75 := NB173_184.out; have hnb76 := NB184_181.out; have hnc76 := NB181_184.out; have hcz77_0 : w74.cell? ⟨gb184, 0, none⟩ = some (.int .i64 ((rd_T30 l1 x9_1).f0)) := (blk_cell BK184.out 0).trans rfl; have hcz77_1 : w74.cell? ⟨gb184, 1, none⟩ = some (.int .i64 ((rd_T30 l1 x9_1).f1)) := (blk_cell BK184.out 1).trans rfl; have hcz77_2 : w74.cell? ⟨gb184, 2, none⟩ = some (.int .i64 ((rd_T30 l1 x9_1).f2)) := (blk_cell BK184.out 2).trans rfl; have hfz77_0 := blk_frozen BK184.out 0; have hfz77_1 := blk_frozen BK184.out 1; have hfz77_2 := blk_frozen BK184.out 2)); go_upto_if 97 with (first | (go_at_call 11; (with_reducible refine (front_Front_Next.calls g181 x182000_1 x182001_1 x182002_1 x182003_1 x182004_1 x182005_1 t192 t193 t194 t195 t196 t197 t198 t199 t200 w _ ?side1 ?side2 A72.out).mono ?_); (case side1 => repeat (first | (with_reducible first | exact HI181.out | apply IsS40.alloc | apply IsS40.drewN | apply IsS40.drew | apply IsS40.set_0 | apply IsS40.set_1 | apply IsS40.set_2 | apply IsS40.set_3 | apply IsS40.set_4 | apply IsS40.set_5 | refine IsS40.far ?_ NB181_173.out _ | refine IsS40.far ?_ NB181_184.out _) | exact HI181.out)); (case side2 => repeat (first | (with_reducible first | exact HB.out | apply below_alloc | apply pw_below_drewN | apply below_drew1 | refine below_set ?_ (IsS40.ge HI181.out) | refine below_set ?_ GE173.out | refine below_set ?_ GE184.out) | exact HB.out)); rintro e w74 ⟨rfl, hi, hb, hk⟩; have n0_ := Aside0.mk (KeepBut.blk hk (g' := gb173) (o := .cells #[.int .i64 a0_0, .int .i64 a0_1, .int .i64 a0_2, .int .i64 a0_3] 23 (0, 0)) (by (with_reducible repeat (first | refine blk_drewN ?_ _ | refine blk_drew ?_ | refine blk_alloc ?_ _)); exact BK173.out) NB173_181.out (by simp)); have n1_ := Aside0.mk (KeepBut.blk hk (g' := gb184) (o := .cells #[.int .i64 ((rd_T30 l1 x9_1).f0), .int .i64 ((rd_T30 l1 x9_1).f1), .int .i64 ((rd_T30 l1 x9_1).f2)] 30 (0, 0)) (by (with_reducible repeat (first | refine blk_drewN ?_ _ | refine blk_drew ?_ | refine blk_alloc ?_ _)); exact BK184.out) NB184_181.out (by simp)); have n2_ := Aside0.mk (hb); have n3_ := Aside0.mk (hi); clear BK173; clear BK184; clear HB; clear HI181; have BK173 := n0_; have BK184 := n1_; have HB := n2_; have HI181 := n3_; clear n0_ n1_ n2_ n3_; (try clear hb); (try clear hb2); (try clear hk); (try clear hi); have hnb75 := NB184_173.out; have hnc75 := NB173_184.out; have hnb76 := NB184_181.out; have hnc76 := NB181_184.out; have hcz77_0 : w74.cell? ⟨gb184, 0, none⟩ = some (.int .i64 ((rd_T30 l1 x9_1).f0)) := (blk_cell BK184.out 0).trans rfl; have hcz77_1 : w74.cell? ⟨gb184, 1, none⟩ = some (.int .i64 ((rd_T30 l1 x9_1).f1)) := (blk_cell BK184.out 1).trans rfl; have hcz77_2 : w74.cell? ⟨gb184, 2, none⟩ = some (.int .i64 ((rd_T30 l1 x9_1).f2)) := (blk_cell BK184.out 2).trans rfl; have hfz77_0 := blk_frozen BK184.out 0; have hfz77_1 := blk_frozen BK184.out 1; have hfz77_2 := blk_frozen BK184.out 2)))
                    (try simp only [Act.put, List.setIfInBounds_toArray, List.set_cons_zero, List.set_cons_succ])
                    go_cut [12, 13, 14] (fun v12 v13 v14 wc => ∃ (kq : Nat) (x12_72 : Int) (x13_72 : Int) (x14_72 : Bool) (x182000_72 : Int) (x182001_72 : Int) (x182002_72 : Int) (x182003_72 : Int) (x182004_72 : Int) (x182005_72 : Int), v12 = .int .i64 x12_72 ∧ v13 = .int .i64 x13_72 ∧ v14 = .bool x14_72 ∧ Aside0 (blackboardlaw17_FrontPlays.j4 kq l1 t182 x7_1 x8_1 x9_1 x12_72 x13_72 x14_72 a0_0 a0_1 a0_2 a0_3 x182000_72 x182001_72 x182002_72 x182003_72 x182004_72 x182005_72 ((rd_T30 l1 x9_1).f0) ((rd_T30 l1 x9_1).f1) ((rd_T30 l1 x9_1).f2) = some r) ∧ Aside0 (kq ≤ kj66) ∧ Aside0 (wc.heap[gb173]? = some (.cells #[.int .i64 a0_0, .int .i64 a0_1, .int .i64 a0_2, .int .i64 a0_3] 23 (0, 0))) ∧ Aside0 (wc.heap[gb184]? = some (.cells #[.int .i64 ((rd_T30 l1 x9_1).f0), .int .i64 ((rd_T30 l1 x9_1).f1), .int .i64 ((rd_T30 l1 x9_1).f2)] 30 (0, 0))) ∧ Aside0 (IsS40 w wc g181 x182000_72 x182001_72 x182002_72 x182003_72 x182004_72 x182005_72) ∧ Aside0 (Below w.heap.size w wc))
                    case first =>
                     have H := HC73.out
                     clear HC73
                     by_cases c78 : ((rd_T30 l1 x9_1).f0) > 2
                     ·
                      as_aux_lemma =>
                       rw [if_pos c78] at H
                       have c78b0 : decide (2 < ((rd_T30 l1 x9_1).f0)) = true := decide_eq_true c78
                       clear c78
                       (first | rw [c78b0] | (simp only [i64_w, i32_w]; rw [c78b0]) | skip)
                       replace H := Option.bind_eq_some_iff.mp H
                       obtain ⟨⟨t201, t202, t203, t204, t205, t206, t207, t208, t209⟩, A790, H⟩ := H
                       replace H : (blackboardlaw17_FrontPlays.j4 kj66 l1 t182 x7_1 x8_1 x9_1 t201 t202 t203 a0_0 a0_1 a0_2 a0_3 t204 t205 t206 t207 t208 t209 ((rd_T30 l1 x9_1).f0) ((rd_T30 l1 x9_1).f1) ((rd_T30 l1 x9_1).f2)) = some r := H
                       have A79 := Aside0.mk A790
                       clear A790
                       have H' := Aside0.mk H
                       clear H
                       go_wp2_with (first | (go_at_call 12; (with_reducible refine (front_Front_Take.calls g181 t195 t196 t197 t198 t199 t200 t201 t202 t203 t204 t205 t206 t207 t208 t209 w _ ?side1 ?side2 A79.out).mono ?_); (case side1 => repeat (first | (with_reducible first | exact HI181.out | apply IsS40.alloc | apply IsS40.drewN | apply IsS40.drew | apply IsS40.set_0 | apply IsS40.set_1 | apply IsS40.set_2 | apply IsS40.set_3 | apply IsS40.set_4 | apply IsS40.set_5 | refine IsS40.far ?_ NB181_173.out _ | refine IsS40.far ?_ NB181_184.out _) | exact HI181.out)); (case side2 => repeat (first | (with_reducible first | exact HB.out | apply below_alloc | apply pw_below_drewN | apply below_drew1 | refine below_set ?_ (IsS40.ge HI181.out) | refine below_set ?_ GE173.out | refine below_set ?_ GE184.out) | exact HB.out)); rintro e w80 ⟨rfl, hi, hb, hk⟩; have n0_ := Aside0.mk (KeepBut.blk hk (g' := gb173) (o := .cells #[.int .i64 a0_0, .int .i64 a0_1, .int .i64 a0_2, .int .i64 a0_3] 23 (0, 0)) (by (with_reducible repeat (first | refine blk_drewN ?_ _ | refine blk_drew ?_ | refine blk_alloc ?_ _)); exact BK173.out) NB173_181.out (by simp)); have n1_ := Aside0.mk (KeepBut.blk hk (g' := gb184) (o := .cells #[.int .i64 ((rd_T30 l1 x9_1).f0), .int .i64 ((rd_T30 l1 x9_1).f1), .int .i64 ((rd_T30 l1 x9_1).f2)] 30 (0, 0)) (by (with_reducible repeat (first | refine blk_drewN ?_ _ | refine blk_drew ?_ | refine blk_alloc ?_ _)); exact BK184.out) NB184_181.out (by simp)); have n2_ := Aside0.mk (hb); have n3_ := Aside0.mk (hi); clear BK173; clear BK184; clear HB; clear HI181; have BK173 := n0_; have BK184 := n1_; have HB := n2_; have HI181 := n3_; clear n0_ n1_ n2_ n3_; (try clear hb); (try clear hb2); (try clear hk); (try clear hi)))
                       repeat (go_quiet (first | (go_at_call 12; (with_reducible refine (front_Front_Take.calls g181 t195 t196 t197 t198 t199 t200 t201 t202 t203 t204 t205 t206 t207 t208 t209 w _ ?side1 ?side2 A79.out).mono ?_); (case side1 => repeat (first | (with_reducible first | exact HI181.out | apply IsS40.alloc | apply IsS40.drewN | apply IsS40.drew | apply IsS40.set_0 | apply IsS40.set_1 | apply IsS40.set_2 | apply IsS40.set_3 | apply IsS40.set_4 | apply IsS40.set_5 | refine IsS40.far ?_ NB181_173.out _ | refine IsS40.far ?_ NB181_184.out _) | exact HI181.out)); (case side2 => repeat (first | (with_reducible first | exact HB.out | apply below_alloc | apply pw_below_drewN | apply below_drew1 | refine below_set ?_ (IsS40.ge HI181.out) | refine below_set ?_ GE173.out | refine below_set ?_ GE184.out) | exact HB.out)); rintro e w80 ⟨rfl, hi, hb, hk⟩; have n0_ := Aside0.mk (KeepBut.blk hk (g' := gb173) (o := .cells #[.int .i64 a0_0, .int .i64 a0_1, .int .i64 a0_2, .int .i64 a0_3] 23 (0, 0)) (by (with_reducible repeat (first | refine blk_drewN ?_ _ | refine blk_drew ?_ | refine blk_alloc ?_ _)); exact BK173.out) NB173_181.out (by simp)); have n1_ := Aside0.mk (KeepBut.blk hk (g' := gb184) (o := .cells #[.int .i64 ((rd_T30 l1 x9_1).f0), .int .i64 ((rd_T30 l1 x9_1).f1), .int .i64 ((rd_T30 l1 x9_1).f2)] 30 (0, 0)) (by (with_reducible repeat (first | refine blk_drewN ?_ _ | refine blk_drew ?_ | refine blk_alloc ?_ _)); exact BK184.out) NB184_181.out (by simp)); have n2_ := Aside0.mk (hb); have n3_ := Aside0.mk (hi); clear BK173; clear BK184; clear HB; clear HI181; have BK173 := n0_; have BK184 := n1_; have HB := n2_; have HI181 := n3_; clear n0_ n1_ n2_ n3_; (try clear hb); (try clear hb2); (try clear hk); (try clear hi))); try go_wp2_with (first | (go_at_call 12; (with_reducible refine (front_Front_Take.calls g181 t195 t196 t197 t198 t199 t200 t201 t202 t203 t204 t205 t206 t207 t208 t209 w _ ?side1 ?side2 A79.out).mono ?_); (case side1 => repeat (first | (with_reducible first | exact HI181.out | apply IsS40.alloc | apply IsS40.drewN | apply IsS40.drew | apply IsS40.set_0 | apply IsS40.set_1 | apply IsS40.set_2 | apply IsS40.set_3 | apply IsS40.set_4 | apply IsS40.set_5 | refine IsS40.far ?_ NB181_173.out _ | refine IsS40.far ?_ NB181_184.out _) | exact HI181.out)); (case side2 => repeat (first | (with_reducible first | exact HB.out | apply below_alloc | apply pw_below_drewN | apply below_drew1 | refine below_set ?_ (IsS40.ge HI181.out) | refine below_set ?_ GE173.out | refine below_set ?_ GE184.out) | exact HB.out)); rintro e w80 ⟨rfl, hi, hb, hk⟩; have n0_ := Aside0.mk (KeepBut.blk hk (g' := gb173) (o := .cells #[.int .i64 a0_0, .int .i64 a0_1, .int .i64 a0_2, .int .i64 a0_3] 23 (0, 0)) (by (with_reducible repeat (first | refine blk_drewN ?_ _ | refine blk_drew ?_ | refine blk_alloc ?_ _)); exact BK173.out) NB173_181.out (by simp)); have n1_ := Aside0.mk (KeepBut.blk hk (g' := gb184) (o := .cells #[.int .i64 ((rd_T30 l1 x9_1).f0), .int .i64 ((rd_T30 l1 x9_1).f1), .int .i64 ((rd_T30 l1 x9_1).f2)] 30 (0, 0)) (by (with_reducible repeat (first | refine blk_drewN ?_ _ | refine blk_drew ?_ | refine blk_alloc ?_ _)); exact BK184.out) NB184_181.out (by simp)); have n2_ := Aside0.mk (hb); have n3_ := Aside0.mk (hi); clear BK173; clear BK184; clear HB; clear HI181; have BK173 := n0_; have BK184 := n1_; have HB := n2_; have HI181 := n3_; clear n0_ n1_ n2_ n3_; (try clear hb); (try clear hb2); (try clear hk); (try clear hi))))
                       go_meet
                       case rel => exact ⟨_, (t201), (t202), (t203), (t204), (t205), (t206), (t207), (t208), (t209), (by first | rfl | (simp; done) | (simp [*]; done)), (by first | rfl | (simp; done) | (simp [*]; done)), (by first | rfl | (simp; done) | (simp [*]; done)), H', ⟨by have := HK1.out; have := HJ23.out; have := HJ66.out; first | omega | exact Nat.le_refl _⟩, ⟨by (with_reducible repeat (first | refine blk_drewN ?_ _ | refine blk_drew ?_ | refine blk_alloc ?_ _)); exact BK173.out⟩, ⟨by (with_reducible repeat (first | refine blk_drewN ?_ _ | refine blk_drew ?_ | refine blk_alloc ?_ _)); exact BK184.out⟩, ⟨by repeat (first | (with_reducible first | exact HI181.out | apply IsS40.alloc | apply IsS40.drewN | apply IsS40.drew | apply IsS40.set_0 | apply IsS40.set_1 | apply IsS40.set_2 | apply IsS40.set_3 | apply IsS40.set_4 | apply IsS40.set_5 | refine IsS40.far ?_ NB181_173.out _ | refine IsS40.far ?_ NB181_184.out _) | exact HI181.out)⟩, ⟨by repeat (first | (with_reducible first | exact HB.out | apply below_alloc | apply pw_below_drewN | apply below_drew1 | refine below_set ?_ (IsS40.ge HI181.out) | refine below_set ?_ GE173.out | refine below_set ?_ GE184.out) | exact HB.out)⟩⟩
                     ·
                      rw [if_neg c78] at H
                      have c78b0 : decide (2 < ((rd_T30 l1 x9_1).f0)) = false := decide_eq_false c78
                      clear c78
                      (first | rw [c78b0] | (simp only [i64_w, i32_w]; rw [c78b0]) | skip)
                      have H' := Aside0.mk H
                      clear H
                      go_wp2
                      repeat (go_quiet (fail); try go_wp2)
                      go_meet
                      case rel => exact ⟨_, (t192), (t193), (t194), (t195), (t196), (t197), (t198), (t199), (t200), (by first | rfl | (simp; done) | (simp [*]; done)), (by first | rfl | (simp; done) | (simp [*]; done)), (by first | rfl | (simp; done) | (simp [*]; done)), H', ⟨by have := HK1.out; have := HJ23.out; have := HJ66.out; first | omega | exact Nat.le_refl _⟩, ⟨by (with_reducible repeat (first | refine blk_drewN ?_ _ | refine blk_drew ?_ | refine blk_alloc ?_ _)); exact BK173.out⟩, ⟨by (with_reducible repeat (first | refine blk_drewN ?_ _ | refine blk_drew ?_ | refine blk_alloc ?_ _)); exact BK184.out⟩, ⟨by repeat (first | (with_reducible first | exact HI181.out | apply IsS40.alloc | apply IsS40.drewN | apply IsS40.drew | apply IsS40.set_0 | apply IsS40.set_1 | apply IsS40.set_2 | apply IsS40.set_3 | apply IsS40.set_4 | apply IsS40.set_5 | refine IsS40.far ?_ NB181_173.out _ | refine IsS40.far ?_ NB181_184.out _) | exact HI181.out)⟩, ⟨by repeat (first | (with_reducible first | exact HB.out | apply below_alloc | apply pw_below_drewN | apply below_drew1 | refine below_set ?_ (IsS40.ge HI181.out) | refine below_set ?_ GE173.out | refine below_set ?_ GE184.out) | exact HB.out)⟩⟩
                    case rest =>
                     clear HC73
                     try clear c1
                     try clear p1
                     try clear q1
                     try clear hx1
                     try clear c2
                     try clear p2
                     try clear c3
                     try clear c4
                     try clear c5
                     try clear c5b0
                     try clear c5b1
                     try clear c6
                     try clear c7
                     try clear c14
                     try clear c17
                     try clear c17b0
                     try clear c18
                     try clear c18b0
                     try clear p18
                     try clear q18
                     try clear hx18
                     try clear c21
                     try clear c22
                     try clear c25
                     try clear c25b0
                     try clear c25b1
                     try clear c26
                     try clear c28
                     try clear c29
                     try clear c29b0
                     try clear c30
                     try clear c30b0
                     try clear c31
                     try clear c31b0
                     try clear c32
                     try clear c32b0
                     try clear c33
                     try clear c34
                     try clear c36
                     try clear c38
                     try clear c39
                     try clear c41
                     try clear c43
                     try clear c44
                     try clear c46
                     try clear c48
                     try clear c49
                     try clear c52
                     try clear c52b0
                     try clear c52b1
                     try clear c52b2
                     try clear c53
                     try clear c54
                     try clear c57
                     try clear c58
                     try clear c59
                     try clear c63
                     try clear c64
                     try clear c68
                     try clear c68b0
                     try clear c68b1
                     try clear c69
                     try clear c69b0
                     try clear c69b1
                     try clear c70
                     try clear c70b0
                     try clear c70b1
                     try clear c71
                     try clear c75
                     try clear c76
                     try clear c78
                     try clear c78b0
                     try clear hcz12_0
                     try clear hcz12_1
                     try clear hcz12_2
                     try clear hcz12_3
                     try clear hcz15_0
                     try clear hcz15_1
                     try clear hcz15_2
                     try clear hcz15_3
                     try clear hcz23_0
                     try clear hcz23_1
                     try clear hcz23_2
                     try clear hcz35_0
                     try clear hcz35_1
                     try clear hcz35_2
                     try clear hcz37_0
                     try clear hcz37_1
                     try clear hcz37_2
                     try clear hcz37_3
                     try clear hcz40_0
                     try clear hcz40_1
                     try clear hcz40_2
                     try clear hcz42_0
                     try clear hcz42_1
                     try clear hcz42_2
                     try clear hcz42_3
                     try clear hcz45_0
                     try clear hcz45_1
                     try clear hcz45_2
                     try clear hcz47_0
                     try clear hcz47_1
                     try clear hcz47_2
                     try clear hcz47_3
                     try clear hcz50_0
                     try clear hcz50_1
                     try clear hcz50_2
                     try clear hcz55_0
                     try clear hcz55_1
                     try clear hcz55_2
                     try clear hcz60_0
                     try clear hcz60_1
                     try clear hcz60_2
                     try clear hcz62_0
                     try clear hcz62_1
                     try clear hcz62_2
                     try clear hcz65_0
                     try clear hcz65_1
                     try clear hcz65_2
                     try clear hcz77_0
                     try clear hcz77_1
                     try clear hcz77_2
                     try clear hfz12_0
                     try clear hfz12_1
                     try clear hfz12_2
                     try clear hfz12_3
                     try clear hfz15_0
                     try clear hfz15_1
                     try clear hfz15_2
                     try clear hfz15_3
                     try clear hfz23_0
                     try clear hfz23_1
                     try clear hfz23_2
                     try clear hfz35_0
                     try clear hfz35_1
                     try clear hfz35_2
                     try clear hfz37_0
                     try clear hfz37_1
                     try clear hfz37_2
                     try clear hfz37_3
                     try clear hfz40_0
                     try clear hfz40_1
                     try clear hfz40_2
                     try clear hfz42_0
                     try clear hfz42_1
                     try clear hfz42_2
                     try clear hfz42_3
                     try clear hfz45_0
                     try clear hfz45_1
                     try clear hfz45_2
                     try clear hfz47_0
                     try clear hfz47_1
                     try clear hfz47_2
                     try clear hfz47_3
                     try clear hfz50_0
                     try clear hfz50_1
                     try clear hfz50_2
                     try clear hfz55_0
                     try clear hfz55_1
                     try clear hfz55_2
                     try clear hfz60_0
                     try clear hfz60_1
                     try clear hfz60_2
                     try clear hfz62_0
                     try clear hfz62_1
                     try clear hfz62_2
                     try clear hfz65_0
                     try clear hfz65_1
                     try clear hfz65_2
                     try clear hfz77_0
                     try clear hfz77_1
                     try clear hfz77_2
                     try clear hx183_0
                     try clear hx183_1
                     try clear hx183_2
                     try clear p1
                     try clear p18
                     try clear p183
                     try clear p2
                     try clear q1
                     try clear q18
                     try clear q183
                     obtain ⟨kq, x12_72, x13_72, x14_72, x182000_72, x182001_72, x182002_72, x182003_72, x182004_72, x182005_72, rfl, rfl, rfl, HA, HJ72, BK173, BK184, HI181, HB⟩ := hcut
                     cases kq with
                     | zero => exact absurd HA.out (by simp [blackboardlaw17_FrontPlays.j4])
                     | succ kj72 =>
                      have H := HA.out
                      clear HA
                      simp only [blackboardlaw17_FrontPlays.j4] at H
                      have HC81 := Aside0.mk H
                      clear H
                      go_upto_region 29 with (fail)
                      repeat (go_quiet (fail); go_upto_region 29 with (fail))
                      go_cut [132] (fun v132 wc => ∃ (kq : Nat) (x132_80 : Bool), v132 = .bool x132_80 ∧ Aside0 (blackboardlaw17_FrontPlays.j5 kq l1 t182 x7_1 x8_1 x9_1 x14_72 x132_80 a0_0 a0_1 a0_2 a0_3 x182000_72 x182001_72 x182002_72 x182003_72 x182004_72 x182005_72 ((rd_T30 l1 x9_1).f0) ((rd_T30 l1 x9_1).f1) ((rd_T30 l1 x9_1).f2) = some r) ∧ Aside0 (kq ≤ kj72) ∧ Aside0 (wc.heap[gb173]? = some (.cells #[.int .i64 a0_0, .int .i64 a0_1, .int .i64 a0_2, .int .i64 a0_3] 23 (0, 0))) ∧ Aside0 (wc.heap[gb184]? = some (.cells #[.int .i64 ((rd_T30 l1 x9_1).f0), .int .i64 ((rd_T30 l1 x9_1).f1), .int .i64 ((rd_T30 l1 x9_1).f2)] 30 (0, 0))) ∧ Aside0 (IsS40 w wc g181 x182000_72 x182001_72 x182002_72 x182003_72 x182004_72 x182005_72) ∧ Aside0 (Below w.heap.size w wc))
                      case first =>
                       have H := HC81.out
                       clear HC81
                       by_cases c82 : (x14_72 != (decide (x7_1 ≥ 0))) = true
                       ·
                        rw [if_pos c82] at H
                        have c82b0 : (x14_72 != (decide (x7_1 ≥ 0))) = true := c82
                        (try (have c82b1 : decide (x14_72 = (decide (x7_1 ≥ 0))) = false := by simpa using c82))
                        (try (have c82b2 : (x14_72 == (decide (x7_1 ≥ 0))) = false := by simpa using c82))
                        (try (have c82b3 : ¬ (x14_72 = (decide (x7_1 ≥ 0))) := by simpa using c82))
                        clear c82
                        (first | rw [c82b0] | (simp only [i64_w, i32_w]; rw [c82b0]) | skip)
                        have H' := Aside0.mk H
                        clear H
                        go_wp2
                        repeat (go_quiet (fail); try go_wp2)
                        go_meet
                        case rel => exact ⟨_, (true), (by first | rfl | (simp; done) | (simp [*]; done)), H', ⟨by have := HK1.out; have := HJ23.out; have := HJ66.out; have := HJ72.out; first | omega | exact Nat.le_refl _⟩, ⟨by (with_reducible repeat (first | refine blk_drewN ?_ _ | refine blk_drew ?_ | refine blk_alloc ?_ _)); exact BK173.out⟩, ⟨by (with_reducible repeat (first | refine blk_drewN ?_ _ | refine blk_drew ?_ | refine blk_alloc ?_ _)); exact BK184.out⟩, ⟨by repeat (first | (with_reducible first | exact HI181.out | apply IsS40.alloc | apply IsS40.drewN | apply IsS40.drew | apply IsS40.set_0 | apply IsS40.set_1 | apply IsS40.set_2 | apply IsS40.set_3 | apply IsS40.set_4 | apply IsS40.set_5 | refine IsS40.far ?_ NB181_173.out _ | refine IsS40.far ?_ NB181_184.out _) | exact HI181.out)⟩, ⟨by repeat (first | (with_reducible first | exact HB.out | apply below_alloc | apply pw_below_drewN | apply below_drew1 | refine below_set ?_ (IsS40.ge HI181.out) | refine below_set ?_ GE173.out | refine below_set ?_ GE184.out) | exact HB.out)⟩⟩
                       ·
                        as_aux_lemma =>
                         rw [if_neg c82] at H
                         have c82b0 : (x14_72 != (decide (x7_1 ≥ 0))) = false := by simpa using c82
                         (try (have c82b1 : decide (x14_72 = (decide (x7_1 ≥ 0))) = true := by simpa using c82))
                         (try (have c82b2 : (x14_72 == (decide (x7_1 ≥ 0))) = true := by simpa using c82))
                         clear c82
                         (first | rw [c82b0] | (simp only [i64_w, i32_w]; rw [c82b0]) | skip)
                         by_cases c83 : x14_72 = true
                         ·
                          as_aux_lemma =>
                           subst c83
                           have H1 : (if x12_72 = x7_1 then (if x13_72 = x8_1 then (blackboardlaw17_FrontPlays.j5 kj72 l1 t182 x7_1 x8_1 x9_1 true false a0_0 a0_1 a0_2 a0_3 x182000_72 x182001_72 x182002_72 x182003_72 x182004_72 x182005_72 ((rd_T30 l1 x9_1).f0) ((rd_T30 l1 x9_1).f1) ((rd_T30 l1 x9_1).f2)) else (blackboardlaw17_FrontPlays.j5 kj72 l1 t182 x7_1 x8_1 x9_1 true true a0_0 a0_1 a0_2 a0_3 x182000_72 x182001_72 x182002_72 x182003_72 x182004_72 x182005_72 ((rd_T30 l1 x9_1).f0) ((rd_T30 l1 x9_1).f1) ((rd_T30 l1 x9_1).f2))) else (blackboardlaw17_FrontPlays.j5 kj72 l1 t182 x7_1 x8_1 x9_1 true true a0_0 a0_1 a0_2 a0_3 x182000_72 x182001_72 x182002_72 x182003_72 x182004_72 x182005_72 ((rd_T30 l1 x9_1).f0) ((rd_T30 l1 x9_1).f1) ((rd_T30 l1 x9_1).f2))) = some r := by rw [if_pos rfl] at H; exact H
                           clear H
                           have H := H1
                           clear H1
                           by_cases c84 : x12_72 = x7_1
                           ·
                            rw [if_pos c84] at H
                            have c84b0 : (x12_72 == x7_1) = true := beq_iff_eq.mpr c84
                            have c84b1 : (x12_72 != x7_1) = false := bne_eq_false_iff_eq.mpr c84
                            clear c84
                            by_cases c85 : x13_72 = x8_1
                            ·
                             rw [if_pos c85] at H
                             have c85b0 : (x13_72 == x8_1) = true := beq_iff_eq.mpr c85
                             have c85b1 : (x13_72 != x8_1) = false := bne_eq_false_iff_eq.mpr c85
                             clear c85
                             have H' := Aside0.mk H
                             clear H
                             go_wp2
                             repeat (go_quiet (fail); try go_wp2)
                             go_meet
                             case rel => exact ⟨_, (false), (by first | rfl | (simp; done) | (simp [*]; done)), H', ⟨by have := HK1.out; have := HJ23.out; have := HJ66.out; have := HJ72.out; first | omega | exact Nat.le_refl _⟩, ⟨by (with_reducible repeat (first | refine blk_drewN ?_ _ | refine blk_drew ?_ | refine blk_alloc ?_ _)); exact BK173.out⟩, ⟨by (with_reducible repeat (first | refine blk_drewN ?_ _ | refine blk_drew ?_ | refine blk_alloc ?_ _)); exact BK184.out⟩, ⟨by repeat (first | (with_reducible first | exact HI181.out | apply IsS40.alloc | apply IsS40.drewN | apply IsS40.drew | apply IsS40.set_0 | apply IsS40.set_1 | apply IsS40.set_2 | apply IsS40.set_3 | apply IsS40.set_4 | apply IsS40.set_5 | refine IsS40.far ?_ NB181_173.out _ | refine IsS40.far ?_ NB181_184.out _) | exact HI181.out)⟩, ⟨by repeat (first | (with_reducible first | exact HB.out | apply below_alloc | apply pw_below_drewN | apply below_drew1 | refine below_set ?_ (IsS40.ge HI181.out) | refine below_set ?_ GE173.out | refine below_set ?_ GE184.out) | exact HB.out)⟩⟩
                            ·
                             rw [if_neg c85] at H
                             have c85b0 : (x13_72 == x8_1) = false := beq_eq_false_iff_ne.mpr c85
                             have c85b1 : (x13_72 != x8_1) = true := bne_iff_ne.mpr c85
                             have H' := Aside0.mk H
                             clear H
                             go_wp2
                             repeat (go_quiet (fail); try go_wp2)
                             go_meet
                             case rel => exact ⟨_, (true), (by first | rfl | (simp; done) | (simp [*]; done)), H', ⟨by have := HK1.out; have := HJ23.out; have := HJ66.out; have := HJ72.out; first | omega | exact Nat.le_refl _⟩, ⟨by (with_reducible repeat (first | refine blk_drewN ?_ _ | refine blk_drew ?_ | refine blk_alloc ?_ _)); exact BK173.out⟩, ⟨by (with_reducible repeat (first | refine blk_drewN ?_ _ | refine blk_drew ?_ | refine blk_alloc ?_ _)); exact BK184.out⟩, ⟨by repeat (first | (with_reducible first | exact HI181.out | apply IsS40.alloc | apply IsS40.drewN | apply IsS40.drew | apply IsS40.set_0 | apply IsS40.set_1 | apply IsS40.set_2 | apply IsS40.set_3 | apply IsS40.set_4 | apply IsS40.set_5 | refine IsS40.far ?_ NB181_173.out _ | refine IsS40.far ?_ NB181_184.out _) | exact HI181.out)⟩, ⟨by repeat (first | (with_reducible first | exact HB.out | apply below_alloc | apply pw_below_drewN | apply below_drew1 | refine below_set ?_ (IsS40.ge HI181.out) | refine below_set ?_ GE173.out | refine below_set ?_ GE184.out) | exact HB.out)⟩⟩
                           ·
                            rw [if_neg c84] at H
                            have c84b0 : (x12_72 == x7_1) = false := beq_eq_false_iff_ne.mpr c84
                            have c84b1 : (x12_72 != x7_1) = true := bne_iff_ne.mpr c84
                            have H' := Aside0.mk H
                            clear H
                            go_wp2
                            repeat (go_quiet (fail); try go_wp2)
                            go_meet
                            case rel => exact ⟨_, (true), (by first | rfl | (simp; done) | (simp [*]; done)), H', ⟨by have := HK1.out; have := HJ23.out; have := HJ66.out; have := HJ72.out; first | omega | exact Nat.le_refl _⟩, ⟨by (with_reducible repeat (first | refine blk_drewN ?_ _ | refine blk_drew ?_ | refine blk_alloc ?_ _)); exact BK173.out⟩, ⟨by (with_reducible repeat (first | refine blk_drewN ?_ _ | refine blk_drew ?_ | refine blk_alloc ?_ _)); exact BK184.out⟩, ⟨by repeat (first | (with_reducible first | exact HI181.out | apply IsS40.alloc | apply IsS40.drewN | apply IsS40.drew | apply IsS40.set_0 | apply IsS40.set_1 | apply IsS40.set_2 | apply IsS40.set_3 | apply IsS40.set_4 | apply IsS40.set_5 | refine IsS40.far ?_ NB181_173.out _ | refine IsS40.far ?_ NB181_184.out _) | exact HI181.out)⟩, ⟨by repeat (first | (with_reducible first | exact HB.out | apply below_alloc | apply pw_below_drewN | apply below_drew1 | refine below_set ?_ (IsS40.ge HI181.out) | refine below_set ?_ GE173.out | refine below_set ?_ GE184.out) | exact HB.out)⟩⟩
                         ·
                          replace c83 := Bool.eq_false_iff.mpr c83
                          subst c83
                          have H1 : (if x12_72 = 0 then (blackboardlaw17_FrontPlays.j5 kj72 l1 t182 x7_1 x8_1 x9_1 false (x13_72 != 0) a0_0 a0_1 a0_2 a0_3 x182000_72 x182001_72 x182002_72 x182003_72 x182004_72 x182005_72 ((rd_T30 l1 x9_1).f0) ((rd_T30 l1 x9_1).f1) ((rd_T30 l1 x9_1).f2)) else (blackboardlaw17_FrontPlays.j5 kj72 l1 t182 x7_1 x8_1 x9_1 false true a0_0 a0_1 a0_2 a0_3 x182000_72 x182001_72 x182002_72 x182003_72 x182004_72 x182005_72 ((rd_T30 l1 x9_1).f0) ((rd_T30 l1 x9_1).f1) ((rd_T30 l1 x9_1).f2))) = some r := by rw [if_neg (show ¬ (false = true) by decide)] at H; exact H
                          clear H
                          have H := H1
                          clear H1
                          by_cases c86 : x12_72 = 0
                          ·
                           rw [if_pos c86] at H
                           have c86b0 : (x12_72 == 0) = true := beq_iff_eq.mpr c86
                           have c86b1 : (x12_72 != 0) = false := bne_eq_false_iff_eq.mpr c86
                           clear c86
                           have H' := Aside0.mk H
                           clear H
                           go_wp2
                           repeat (go_quiet (fail); try go_wp2)
                           go_meet
                           case rel => exact ⟨_, ((x13_72 != 0)), (by first | rfl | (simp; done) | (simp [*]; done)), H', ⟨by have := HK1.out; have := HJ23.out; have := HJ66.out; have := HJ72.out; first | omega | exact Nat.le_refl _⟩, ⟨by (with_reducible repeat (first | refine blk_drewN ?_ _ | refine blk_drew ?_ | refine blk_alloc ?_ _)); exact BK173.out⟩, ⟨by (with_reducible repeat (first | refine blk_drewN ?_ _ | refine blk_drew ?_ | refine blk_alloc ?_ _)); exact BK184.out⟩, ⟨by repeat (first | (with_reducible first | exact HI181.out | apply IsS40.alloc | apply IsS40.drewN | apply IsS40.drew | apply IsS40.set_0 | apply IsS40.set_1 | apply IsS40.set_2 | apply IsS40.set_3 | apply IsS40.set_4 | apply IsS40.set_5 | refine IsS40.far ?_ NB181_173.out _ | refine IsS40.far ?_ NB181_184.out _) | exact HI181.out)⟩, ⟨by repeat (first | (with_reducible first | exact HB.out | apply below_alloc | apply pw_below_drewN | apply below_drew1 | refine below_set ?_ (IsS40.ge HI181.out) | refine below_set ?_ GE173.out | refine below_set ?_ GE184.out) | exact HB.out)⟩⟩
                          ·
                           rw [if_neg c86] at H
                           have c86b0 : (x12_72 == 0) = false := beq_eq_false_iff_ne.mpr c86
                           have c86b1 : (x12_72 != 0) = true := bne_iff_ne.mpr c86
                           have H' := Aside0.mk H
                           clear H
                           go_wp2
                           repeat (go_quiet (fail); try go_wp2)
                           go_meet
                           case rel => exact ⟨_, (true), (by first | rfl | (simp; done) | (simp [*]; done)), H', ⟨by have := HK1.out; have := HJ23.out; have := HJ66.out; have := HJ72.out; first | omega | exact Nat.le_refl _⟩, ⟨by (with_reducible repeat (first | refine blk_drewN ?_ _ | refine blk_drew ?_ | refine blk_alloc ?_ _)); exact BK173.out⟩, ⟨by (with_reducible repeat (first | refine blk_drewN ?_ _ | refine blk_drew ?_ | refine blk_alloc ?_ _)); exact BK184.out⟩, ⟨by repeat (first | (with_reducible first | exact HI181.out | apply IsS40.alloc | apply IsS40.drewN | apply IsS40.drew | apply IsS40.set_0 | apply IsS40.set_1 | apply IsS40.set_2 | apply IsS40.set_3 | apply IsS40.set_4 | apply IsS40.set_5 | refine IsS40.far ?_ NB181_173.out _ | refine IsS40.far ?_ NB181_184.out _) | exact HI181.out)⟩, ⟨by repeat (first | (with_reducible first | exact HB.out | apply below_alloc | apply pw_below_drewN | apply below_drew1 | refine below_set ?_ (IsS40.ge HI181.out) | refine below_set ?_ GE173.out | refine below_set ?_ GE184.out) | exact HB.out)⟩⟩
                      case rest =>
                       clear HC81
                       try clear c1
                       try clear p1
                       try clear q1
                       try clear hx1
                       try clear c2
                       try clear p2
                       try clear c3
                       try clear c4
                       try clear c5
                       try clear c5b0
                       try clear c5b1
                       try clear c6
                       try clear c7
                       try clear c8
                       try clear c14
                       try clear c17
                       try clear c17b0
                       try clear c18
                       try clear c18b0
                       try clear p18
                       try clear q18
                       try clear hx18
                       try clear c21
                       try clear c22
                       try clear c25
                       try clear c25b0
                       try clear c25b1
                       try clear c26
                       try clear c28
                       try clear c29
                       try clear c29b0
                       try clear c30
                       try clear c30b0
                       try clear c31
                       try clear c31b0
                       try clear c32
                       try clear c32b0
                       try clear c33
                       try clear c34
                       try clear c36
                       try clear c38
                       try clear c39
                       try clear c41
                       try clear c43
                       try clear c44
                       try clear c46
                       try clear c48
                       try clear c49
                       try clear c52
                       try clear c52b0
                       try clear c52b1
                       try clear c52b2
                       try clear c53
                       try clear c54
                       try clear c57
                       try clear c58
                       try clear c59
                       try clear c63
                       try clear c64
                       try clear c68
                       try clear c68b0
                       try clear c68b1
                       try clear c69
                       try clear c69b0
                       try clear c69b1
                       try clear c70
                       try clear c70b0
                       try clear c70b1
                       try clear c71
                       try clear c75
                       try clear c76
                       try clear c78
                       try clear c78b0
                       try clear c82
                       try clear c82b0
                       try clear c82b1
                       try clear c82b2
                       try clear c83
                       try clear c84
                       try clear c84b0
                       try clear c84b1
                       try clear c85
                       try clear c85b0
                       try clear c85b1
                       try clear c86
                       try clear c86b0
                       try clear c86b1
                       try clear hcz12_0
                       try clear hcz12_1
                       try clear hcz12_2
                       try clear hcz12_3
                       try clear hcz15_0
                       try clear hcz15_1
                       try clear hcz15_2
                       try clear hcz15_3
                       try clear hcz23_0
                       try clear hcz23_1
                       try clear hcz23_2
                       try clear hcz35_0
                       try clear hcz35_1
                       try clear hcz35_2
                       try clear hcz37_0
                       try clear hcz37_1
                       try clear hcz37_2
                       try clear hcz37_3
                       try clear hcz40_0
                       try clear hcz40_1
                       try clear hcz40_2
                       try clear hcz42_0
                       try clear hcz42_1
                       try clear hcz42_2
                       try clear hcz42_3
                       try clear hcz45_0
                       try clear hcz45_1
                       try clear hcz45_2
                       try clear hcz47_0
                       try clear hcz47_1
                       try clear hcz47_2
                       try clear hcz47_3
                       try clear hcz50_0
                       try clear hcz50_1
                       try clear hcz50_2
                       try clear hcz55_0
                       try clear hcz55_1
                       try clear hcz55_2
                       try clear hcz60_0
                       try clear hcz60_1
                       try clear hcz60_2
                       try clear hcz62_0
                       try clear hcz62_1
                       try clear hcz62_2
                       try clear hcz65_0
                       try clear hcz65_1
                       try clear hcz65_2
                       try clear hcz77_0
                       try clear hcz77_1
                       try clear hcz77_2
                       try clear hfz12_0
                       try clear hfz12_1
                       try clear hfz12_2
                       try clear hfz12_3
                       try clear hfz15_0
                       try clear hfz15_1
                       try clear hfz15_2
                       try clear hfz15_3
                       try clear hfz23_0
                       try clear hfz23_1
                       try clear hfz23_2
                       try clear hfz35_0
                       try clear hfz35_1
                       try clear hfz35_2
                       try clear hfz37_0
                       try clear hfz37_1
                       try clear hfz37_2
                       try clear hfz37_3
                       try clear hfz40_0
                       try clear hfz40_1
                       try clear hfz40_2
                       try clear hfz42_0
                       try clear hfz42_1
                       try clear hfz42_2
                       try clear hfz42_3
                       try clear hfz45_0
                       try clear hfz45_1
                       try clear hfz45_2
                       try clear hfz47_0
                       try clear hfz47_1
                       try clear hfz47_2
                       try clear hfz47_3
                       try clear hfz50_0
                       try clear hfz50_1
                       try clear hfz50_2
                       try clear hfz55_0
                       try clear hfz55_1
                       try clear hfz55_2
                       try clear hfz60_0
                       try clear hfz60_1
                       try clear hfz60_2
                       try clear hfz62_0
                       try clear hfz62_1
                       try clear hfz62_2
                       try clear hfz65_0
                       try clear hfz65_1
                       try clear hfz65_2
                       try clear hfz77_0
                       try clear hfz77_1
                       try clear hfz77_2
                       try clear hx183_0
                       try clear hx183_1
                       try clear hx183_2
                       try clear p1
                       try clear p18
                       try clear p183
                       try clear p2
                       try clear q1
                       try clear q18
                       try clear q183
                       obtain ⟨kq, x132_80, rfl, HA, HJ80, BK173, BK184, HI181, HB⟩ := hcut
                       cases kq with
                       | zero => exact absurd HA.out (by simp [blackboardlaw17_FrontPlays.j5])
                       | succ kj80 =>
                        have H := HA.out
                        clear HA
                        simp only [blackboardlaw17_FrontPlays.j5] at H
                        by_cases c87 : x132_80 = true
                        ·
                         subst c87
                         have H1 : (some false) = some r := by rw [if_pos rfl] at H; exact H
                         clear H
                         have H := H1
                         clear H1
                         obtain rfl := Option.some.inj H
                         go_wp2
                         repeat (go_quiet (fail); try go_wp2)
                         go_ret
                         exact ⟨by first | rfl | (simp [errW_none, errW_some] <;> rfl) | (simp [*, errW_none, errW_some] <;> rfl), by repeat (first | (with_reducible first | exact HB.out | apply below_alloc | apply pw_below_drewN | apply below_drew1 | refine below_set ?_ (IsS40.ge HI181.out) | refine below_set ?_ GE173.out | refine below_set ?_ GE184.out) | exact HB.out)⟩
                        ·
                         as_aux_lemma =>
                          replace c87 := Bool.eq_false_iff.mpr c87
                          subst c87
                          have H1 : (if x14_72 = true then (blackboardlaw17_FrontPlays.j6 kj80 l1 t182 x7_1 x8_1 x9_1 (decide (((rd_T30 l1 x9_1).f0) > 2)) a0_0 a0_1 a0_2 a0_3 x182000_72 x182001_72 x182002_72 x182003_72 x182004_72 x182005_72) else (blackboardlaw17_FrontPlays.j6 kj80 l1 t182 x7_1 x8_1 x9_1 false a0_0 a0_1 a0_2 a0_3 x182000_72 x182001_72 x182002_72 x182003_72 x182004_72 x182005_72)) = some r := by rw [if_neg (show ¬ (false = true) by decide)] at H; exact H
                          clear H
                          have H := H1
                          clear H1
                          have HC88 := Aside0.mk H
                          clear H
                          go_upto_region 31 with (fail)
                          repeat (go_quiet (fail); go_upto_region 31 with (fail))
                          go_cut [138] (fun v138 wc => ∃ (kq : Nat) (x138_87 : Bool), v138 = .bool x138_87 ∧ Aside0 (blackboardlaw17_FrontPlays.j6 kq l1 t182 x7_1 x8_1 x9_1 x138_87 a0_0 a0_1 a0_2 a0_3 x182000_72 x182001_72 x182002_72 x182003_72 x182004_72 x182005_72 = some r) ∧ Aside0 (kq ≤ kj80) ∧ Aside0 (wc.heap[gb173]? = some (.cells #[.int .i64 a0_0, .int .i64 a0_1, .int .i64 a0_2, .int .i64 a0_3] 23 (0, 0))) ∧ Aside0 (wc.heap[gb184]? = some (.cells #[.int .i64 ((rd_T30 l1 x9_1).f0), .int .i64 ((rd_T30 l1 x9_1).f1), .int .i64 ((rd_T30 l1 x9_1).f2)] 30 (0, 0))) ∧ Aside0 (IsS40 w wc g181 x182000_72 x182001_72 x182002_72 x182003_72 x182004_72 x182005_72) ∧ Aside0 (Below w.heap.size w wc))
                          case first =>
                           have H := HC88.out
                           clear HC88
                           by_cases c89 : x14_72 = true
                           ·
                            subst c89
                            have H1 : (blackboardlaw17_FrontPlays.j6 kj80 l1 t182 x7_1 x8_1 x9_1 (decide (((rd_T30 l1 x9_1).f0) > 2)) a0_0 a0_1 a0_2 a0_3 x182000_72 x182001_72 x182002_72 x182003_72 x182004_72 x182005_72) = some r := by rw [if_pos rfl] at H; exact H
                            clear H
                            have H := H1
                            clear H1
                            have H' := Aside0.mk H
                            clear H
                            have hnb90 := NB184_173.out
                            have hnc90 := NB173_184.out
                            have hnb91 := NB184_181.out
                            have hnc91 := NB181_184.out
                            have hcz92_0 : wc.cell? ⟨gb184, 0, none⟩ = some (.int .i64 ((rd_T30 l1 x9_1).f0)) := (blk_cell BK184.out 0).trans rfl
                            have hcz92_1 : wc.cell? ⟨gb184, 1, none⟩ = some (.int .i64 ((rd_T30 l1 x9_1).f1)) := (blk_cell BK184.out 1).trans rfl
                            have hcz92_2 : wc.cell? ⟨gb184, 2, none⟩ = some (.int .i64 ((rd_T30 l1 x9_1).f2)) := (blk_cell BK184.out 2).trans rfl
                            have hfz92_0 := blk_frozen BK184.out 0
                            have hfz92_1 := blk_frozen BK184.out 1
                            have hfz92_2 := blk_frozen BK184.out 2
                            go_wp2
                            repeat (go_quiet (fail); try go_wp2)
                            go_meet
                            case rel => exact ⟨_, (decide (((rd_T30 l1 x9_1).f0) > 2)), (by first | rfl | (simp; done) | (simp [*]; done)), H', ⟨by have := HK1.out; have := HJ23.out; have := HJ66.out; have := HJ72.out; have := HJ80.out; first | omega | exact Nat.le_refl _⟩, ⟨by (with_reducible repeat (first | refine blk_drewN ?_ _ | refine blk_drew ?_ | refine blk_alloc ?_ _)); exact BK173.out⟩, ⟨by (with_reducible repeat (first | refine blk_drewN ?_ _ | refine blk_drew ?_ | refine blk_alloc ?_ _)); exact BK184.out⟩, ⟨by repeat (first | (with_reducible first | exact HI181.out | apply IsS40.alloc | apply IsS40.drewN | apply IsS40.drew | apply IsS40.set_0 | apply IsS40.set_1 | apply IsS40.set_2 | apply IsS40.set_3 | apply IsS40.set_4 | apply IsS40.set_5 | refine IsS40.far ?_ NB181_173.out _ | refine IsS40.far ?_ NB181_184.out _) | exact HI181.out)⟩, ⟨by repeat (first | (with_reducible first | exact HB.out | apply below_alloc | apply pw_below_drewN | apply below_drew1 | refine below_set ?_ (IsS40.ge HI181.out) | refine below_set ?_ GE173.out | refine below_set ?_ GE184.out) | exact HB.out)⟩⟩
                           ·
                            replace c89 := Bool.eq_false_iff.mpr c89
                            subst c89
                            have H1 : (blackboardlaw17_FrontPlays.j6 kj80 l1 t182 x7_1 x8_1 x9_1 false a0_0 a0_1 a0_2 a0_3 x182000_72 x182001_72 x182002_72 x182003_72 x182004_72 x182005_72) = some r := by rw [if_neg (show ¬ (false = true) by decide)] at H; exact H
                            clear H
                            have H := H1
                            clear H1
                            have H' := Aside0.mk H
                            clear H
                            go_wp2
                            repeat (go_quiet (fail); try go_wp2)
                            go_meet
                            case rel => exact ⟨_, (false), (by first | rfl | (simp; done) | (simp [*]; done)), H', ⟨by have := HK1.out; have := HJ23.out; have := HJ66.out; have := HJ72.out; have := HJ80.out; first | omega | exact Nat.le_refl _⟩, ⟨by (with_reducible repeat (first | refine blk_drewN ?_ _ | refine blk_drew ?_ | refine blk_alloc ?_ _)); exact BK173.out⟩, ⟨by (with_reducible repeat (first | refine blk_drewN ?_ _ | refine blk_drew ?_ | refine blk_alloc ?_ _)); exact BK184.out⟩, ⟨by repeat (first | (with_reducible first | exact HI181.out | apply IsS40.alloc | apply IsS40.drewN | apply IsS40.drew | apply IsS40.set_0 | apply IsS40.set_1 | apply IsS40.set_2 | apply IsS40.set_3 | apply IsS40.set_4 | apply IsS40.set_5 | refine IsS40.far ?_ NB181_173.out _ | refine IsS40.far ?_ NB181_184.out _) | exact HI181.out)⟩, ⟨by repeat (first | (with_reducible first | exact HB.out | apply below_alloc | apply pw_below_drewN | apply below_drew1 | refine below_set ?_ (IsS40.ge HI181.out) | refine below_set ?_ GE173.out | refine below_set ?_ GE184.out) | exact HB.out)⟩⟩
                          case rest =>
                           clear HC88
                           try clear c1
                           try clear p1
                           try clear q1
                           try clear hx1
                           try clear c2
                           try clear p2
                           try clear c3
                           try clear c4
                           try clear c5
                           try clear c5b0
                           try clear c5b1
                           try clear c6
                           try clear c7
                           try clear c8
                           try clear c9
                           try clear c14
                           try clear c17
                           try clear c17b0
                           try clear c18
                           try clear c18b0
                           try clear p18
                           try clear q18
                           try clear hx18
                           try clear c21
                           try clear c22
                           try clear c25
                           try clear c25b0
                           try clear c25b1
                           try clear c26
                           try clear c28
                           try clear c29
                           try clear c29b0
                           try clear c30
                           try clear c30b0
                           try clear c31
                           try clear c31b0
                           try clear c32
                           try clear c32b0
                           try clear c33
                           try clear c34
                           try clear c36
                           try clear c38
                           try clear c39
                           try clear c41
                           try clear c43
                           try clear c44
                           try clear c46
                           try clear c48
                           try clear c49
                           try clear c52
                           try clear c52b0
                           try clear c52b1
                           try clear c52b2
                           try clear c53
                           try clear c54
                           try clear c57
                           try clear c58
                           try clear c59
                           try clear c63
                           try clear c64
                           try clear c68
                           try clear c68b0
                           try clear c68b1
                           try clear c69
                           try clear c69b0
                           try clear c69b1
                           try clear c70
                           try clear c70b0
                           try clear c70b1
                           try clear c71
                           try clear c75
                           try clear c76
                           try clear c78
                           try clear c78b0
                           try clear c82
                           try clear c82b0
                           try clear c82b1
                           try clear c82b2
                           try clear c83
                           try clear c84
                           try clear c84b0
                           try clear c84b1
                           try clear c85
                           try clear c85b0
                           try clear c85b1
                           try clear c86
                           try clear c86b0
                           try clear c86b1
                           try clear c87
                           try clear c89
                           try clear c90
                           try clear c91
                           try clear hcz12_0
                           try clear hcz12_1
                           try clear hcz12_2
                           try clear hcz12_3
                           try clear hcz15_0
                           try clear hcz15_1
                           try clear hcz15_2
                           try clear hcz15_3
                           try clear hcz23_0
                           try clear hcz23_1
                           try clear hcz23_2
                           try clear hcz35_0
                           try clear hcz35_1
                           try clear hcz35_2
                           try clear hcz37_0
                           try clear hcz37_1
                           try clear hcz37_2
                           try clear hcz37_3
                           try clear hcz40_0
                           try clear hcz40_1
                           try clear hcz40_2
                           try clear hcz42_0
                           try clear hcz42_1
                           try clear hcz42_2
                           try clear hcz42_3
                           try clear hcz45_0
                           try clear hcz45_1
                           try clear hcz45_2
                           try clear hcz47_0
                           try clear hcz47_1
                           try clear hcz47_2
                           try clear hcz47_3
                           try clear hcz50_0
                           try clear hcz50_1
                           try clear hcz50_2
                           try clear hcz55_0
                           try clear hcz55_1
                           try clear hcz55_2
                           try clear hcz60_0
                           try clear hcz60_1
                           try clear hcz60_2
                           try clear hcz62_0
                           try clear hcz62_1
                           try clear hcz62_2
                           try clear hcz65_0
                           try clear hcz65_1
                           try clear hcz65_2
                           try clear hcz77_0
                           try clear hcz77_1
                           try clear hcz77_2
                           try clear hcz92_0
                           try clear hcz92_1
                           try clear hcz92_2
                           try clear hfz12_0
                           try clear hfz12_1
                           try clear hfz12_2
                           try clear hfz12_3
                           try clear hfz15_0
                           try clear hfz15_1
                           try clear hfz15_2
                           try clear hfz15_3
                           try clear hfz23_0
                           try clear hfz23_1
                           try clear hfz23_2
                           try clear hfz35_0
                           try clear hfz35_1
                           try clear hfz35_2
                           try clear hfz37_0
                           try clear hfz37_1
                           try clear hfz37_2
                           try clear hfz37_3
                           try clear hfz40_0
                           try clear hfz40_1
                           try clear hfz40_2
                           try clear hfz42_0
                           try clear hfz42_1
                           try clear hfz42_2
                           try clear hfz42_3
                           try clear hfz45_0
                           try clear hfz45_1
                           try clear hfz45_2
                           try clear hfz47_0
                           try clear hfz47_1
                           try clear hfz47_2
                           try clear hfz47_3
                           try clear hfz50_0
                           try clear hfz50_1
                           try clear hfz50_2
                           try clear hfz55_0
                           try clear hfz55_1
                           try clear hfz55_2
                           try clear hfz60_0
                           try clear hfz60_1
                           try clear hfz60_2
                           try clear hfz62_0
                           try clear hfz62_1
                           try clear hfz62_2
                           try clear hfz65_0
                           try clear hfz65_1
                           try clear hfz65_2
                           try clear hfz77_0
                           try clear hfz77_1
                           try clear hfz77_2
                           try clear hfz92_0
                           try clear hfz92_1
                           try clear hfz92_2
                           try clear hx183_0
                           try clear hx183_1
                           try clear hx183_2
                           try clear p1
                           try clear p18
                           try clear p183
                           try clear p2
                           try clear q1
                           try clear q18
                           try clear q183
                           obtain ⟨kq, x138_87, rfl, HA, HJ87, BK173, BK184, HI181, HB⟩ := hcut
                           cases kq with
                           | zero => exact absurd HA.out (by simp [blackboardlaw17_FrontPlays.j6])
                           | succ kj87 =>
                            have H := HA.out
                            clear HA
                            simp only [blackboardlaw17_FrontPlays.j6] at H
                            by_cases c93 : x138_87 = true
                            ·
                             as_aux_lemma =>
                              subst c93
                              have H1 : (if (wrap64 (x8_1 + 1)) = a0_1 then (blackboardlaw17_FrontPlays.j7 kj87 l1 t182 (-1) (wrap64 (x8_1 + 1)) x9_1 a0_0 a0_1 a0_2 a0_3 x182000_72 x182001_72 x182002_72 x182003_72 x182004_72 x182005_72) else (blackboardlaw17_FrontPlays.j7 kj87 l1 t182 x7_1 (wrap64 (x8_1 + 1)) x9_1 a0_0 a0_1 a0_2 a0_3 x182000_72 x182001_72 x182002_72 x182003_72 x182004_72 x182005_72)) = some r := by rw [if_pos rfl] at H; exact H
                              clear H
                              have H := H1
                              clear H1
                              by_cases c94 : (wrap64 (x8_1 + 1)) = a0_1
                              ·
                               rw [if_pos c94] at H
                               have c94b0 : ((wrap64 (x8_1 + 1)) == a0_1) = true := beq_iff_eq.mpr c94
                               have c94b1 : ((wrap64 (x8_1 + 1)) != a0_1) = false := bne_eq_false_iff_eq.mpr c94
                               clear c94
                               have H' := Aside0.mk H
                               clear H
                               have hnb95 := NB173_184.out
                               have hnc95 := NB184_173.out
                               have hnb96 := NB173_181.out
                               have hnc96 := NB181_173.out
                               have hcz97_0 : wc.cell? ⟨gb173, 0, none⟩ = some (.int .i64 a0_0) := (blk_cell BK173.out 0).trans rfl
                               have hcz97_1 : wc.cell? ⟨gb173, 1, none⟩ = some (.int .i64 a0_1) := (blk_cell BK173.out 1).trans rfl
                               have hcz97_2 : wc.cell? ⟨gb173, 2, none⟩ = some (.int .i64 a0_2) := (blk_cell BK173.out 2).trans rfl
                               have hcz97_3 : wc.cell? ⟨gb173, 3, none⟩ = some (.int .i64 a0_3) := (blk_cell BK173.out 3).trans rfl
                               have hfz97_0 := blk_frozen BK173.out 0
                               have hfz97_1 := blk_frozen BK173.out 1
                               have hfz97_2 := blk_frozen BK173.out 2
                               have hfz97_3 := blk_frozen BK173.out 3
                               go_wp2
                               repeat (go_quiet (fail); try go_wp2)
                               go_meet
                               case rel => exact ⟨_, ((-1)), (wrap64 (x8_1 + 1)), (x182000_72), (x182001_72), (x182002_72), (x182003_72), (x182004_72), (x182005_72), (by first | rfl | (simp; done) | (simp [*]; done)), (by first | rfl | (simp; done) | (simp [*]; done)), H', ⟨by have := HK1.out; have := HJ23.out; have := HJ66.out; have := HJ72.out; have := HJ80.out; have := HJ87.out; first | omega | exact Nat.le_refl _⟩, ⟨by (with_reducible repeat (first | refine blk_drewN ?_ _ | refine blk_drew ?_ | refine blk_alloc ?_ _)); exact BK173.out⟩, ⟨by (with_reducible repeat (first | refine blk_drewN ?_ _ | refine blk_drew ?_ | refine blk_alloc ?_ _)); exact BK184.out⟩, ⟨by repeat (first | (with_reducible first | exact HI181.out | apply IsS40.alloc | apply IsS40.drewN | apply IsS40.drew | apply IsS40.set_0 | apply IsS40.set_1 | apply IsS40.set_2 | apply IsS40.set_3 | apply IsS40.set_4 | apply IsS40.set_5 | refine IsS40.far ?_ NB181_173.out _ | refine IsS40.far ?_ NB181_184.out _) | exact HI181.out)⟩, ⟨by repeat (first | (with_reducible first | exact HB.out | apply below_alloc | apply pw_below_drewN | apply below_drew1 | refine below_set ?_ (IsS40.ge HI181.out) | refine below_set ?_ GE173.out | refine below_set ?_ GE184.out) | exact HB.out)⟩⟩
                              ·
                               rw [if_neg c94] at H
                               have c94b0 : ((wrap64 (x8_1 + 1)) == a0_1) = false := beq_eq_false_iff_ne.mpr c94
                               have c94b1 : ((wrap64 (x8_1 + 1)) != a0_1) = true := bne_iff_ne.mpr c94
                               have H' := Aside0.mk H
                               clear H
                               have hnb98 := NB173_184.out
                               have hnc98 := NB184_173.out
                               have hnb99 := NB173_181.out
                               have hnc99 := NB181_173.out
                               have hcz100_0 : wc.cell? ⟨gb173, 0, none⟩ = some (.int .i64 a0_0) := (blk_cell BK173.out 0).trans rfl
                               have hcz100_1 : wc.cell? ⟨gb173, 1, none⟩ = some (.int .i64 a0_1) := (blk_cell BK173.out 1).trans rfl
                               have hcz100_2 : wc.cell? ⟨gb173, 2, none⟩ = some (.int .i64 a0_2) := (blk_cell BK173.out 2).trans rfl
                               have hcz100_3 : wc.cell? ⟨gb173, 3, none⟩ = some (.int .i64 a0_3) := (blk_cell BK173.out 3).trans rfl
                               have hfz100_0 := blk_frozen BK173.out 0
                               have hfz100_1 := blk_frozen BK173.out 1
                               have hfz100_2 := blk_frozen BK173.out 2
                               have hfz100_3 := blk_frozen BK173.out 3
                               go_wp2
                               repeat (go_quiet (fail); try go_wp2)
                               go_meet
                               case rel => exact ⟨_, (x7_1), (wrap64 (x8_1 + 1)), (x182000_72), (x182001_72), (x182002_72), (x182003_72), (x182004_72), (x182005_72), (by first | rfl | (simp; done) | (simp [*]; done)), (by first | rfl | (simp; done) | (simp [*]; done)), H', ⟨by have := HK1.out; have := HJ23.out; have := HJ66.out; have := HJ72.out; have := HJ80.out; have := HJ87.out; first | omega | exact Nat.le_refl _⟩, ⟨by (with_reducible repeat (first | refine blk_drewN ?_ _ | refine blk_drew ?_ | refine blk_alloc ?_ _)); exact BK173.out⟩, ⟨by (with_reducible repeat (first | refine blk_drewN ?_ _ | refine blk_drew ?_ | refine blk_alloc ?_ _)); exact BK184.out⟩, ⟨by repeat (first | (with_reducible first | exact HI181.out | apply IsS40.alloc | apply IsS40.drewN | apply IsS40.drew | apply IsS40.set_0 | apply IsS40.set_1 | apply IsS40.set_2 | apply IsS40.set_3 | apply IsS40.set_4 | apply IsS40.set_5 | refine IsS40.far ?_ NB181_173.out _ | refine IsS40.far ?_ NB181_184.out _) | exact HI181.out)⟩, ⟨by repeat (first | (with_reducible first | exact HB.out | apply below_alloc | apply pw_below_drewN | apply below_drew1 | refine below_set ?_ (IsS40.ge HI181.out) | refine below_set ?_ GE173.out | refine below_set ?_ GE184.out) | exact HB.out)⟩⟩
                            ·
                             replace c93 := Bool.eq_false_iff.mpr c93
                             subst c93
                             have H1 : (blackboardlaw17_FrontPlays.j7 kj87 l1 t182 x7_1 x8_1 x9_1 a0_0 a0_1 a0_2 a0_3 x182000_72 x182001_72 x182002_72 x182003_72 x182004_72 x182005_72) = some r := by rw [if_neg (show ¬ (false = true) by decide)] at H; exact H
                             clear H
                             have H := H1
                             clear H1
                             have H' := Aside0.mk H
                             clear H
                             go_wp2
                             repeat (go_quiet (fail); try go_wp2)
                             go_meet
                             case rel => exact ⟨_, (x7_1), (x8_1), (x182000_72), (x182001_72), (x182002_72), (x182003_72), (x182004_72), (x182005_72), (by first | rfl | (simp; done) | (simp [*]; done)), (by first | rfl | (simp; done) | (simp [*]; done)), H', ⟨by have := HK1.out; have := HJ23.out; have := HJ66.out; have := HJ72.out; have := HJ80.out; have := HJ87.out; first | omega | exact Nat.le_refl _⟩, ⟨by (with_reducible repeat (first | refine blk_drewN ?_ _ | refine blk_drew ?_ | refine blk_alloc ?_ _)); exact BK173.out⟩, ⟨by (with_reducible repeat (first | refine blk_drewN ?_ _ | refine blk_drew ?_ | refine blk_alloc ?_ _)); exact BK184.out⟩, ⟨by repeat (first | (with_reducible first | exact HI181.out | apply IsS40.alloc | apply IsS40.drewN | apply IsS40.drew | apply IsS40.set_0 | apply IsS40.set_1 | apply IsS40.set_2 | apply IsS40.set_3 | apply IsS40.set_4 | apply IsS40.set_5 | refine IsS40.far ?_ NB181_173.out _ | refine IsS40.far ?_ NB181_184.out _) | exact HI181.out)⟩, ⟨by repeat (first | (with_reducible first | exact HB.out | apply below_alloc | apply pw_below_drewN | apply below_drew1 | refine below_set ?_ (IsS40.ge HI181.out) | refine below_set ?_ GE173.out | refine below_set ?_ GE184.out) | exact HB.out)⟩⟩
                  ·
                   as_aux_lemma =>
                    replace c71 := Bool.eq_false_iff.mpr c71
                    subst c71
                    have H1 : (if ((rd_T30 l1 x9_1).f0) = 6 then ((front_Front_Shut.f x182000_1 x182001_1 x182002_1 x182003_1 x182004_1 x182005_1).bind fun bt210 => (if bt210.1 = x7_1 then (blackboardlaw17_FrontPlays.j7 kj66 l1 t182 (-1) x8_1 x9_1 a0_0 a0_1 a0_2 a0_3 bt210.2.1 bt210.2.2.1 bt210.2.2.2.1 bt210.2.2.2.2.1 bt210.2.2.2.2.2.1 bt210.2.2.2.2.2.2) else (some false))) else (blackboardlaw17_FrontPlays.j7 kj66 l1 t182 x7_1 x8_1 x9_1 a0_0 a0_1 a0_2 a0_3 x182000_1 x182001_1 x182002_1 x182003_1 x182004_1 x182005_1)) = some r := by rw [if_neg (show ¬ (false = true) by decide)] at H; exact H
                    clear H
                    have H := H1
                    clear H1
                    by_cases c101 : ((rd_T30 l1 x9_1).f0) = 6
                    ·
                     as_aux_lemma =>
                      rw [if_pos c101] at H
                      have c101b0 : (((rd_T30 l1 x9_1).f0) == 6) = true := beq_iff_eq.mpr c101
                      have c101b1 : (((rd_T30 l1 x9_1).f0) != 6) = false := bne_eq_false_iff_eq.mpr c101
                      clear c101
                      replace H := Option.bind_eq_some_iff.mp H
                      obtain ⟨⟨t210, t211, t212, t213, t214, t215, t216⟩, A1020, H⟩ := H
                      replace H : (if t210 = x7_1 then (blackboardlaw17_FrontPlays.j7 kj66 l1 t182 (-1) x8_1 x9_1 a0_0 a0_1 a0_2 a0_3 t211 t212 t213 t214 t215 t216) else (some false)) = some r := H
                      have A102 := Aside0.mk A1020
                      clear A1020
                      by_cases c103 : t210 = x7_1
                      ·
                       as_aux_lemma =>
                        rw [if_pos c103] at H
                        have c103b0 : (t210 == x7_1) = true := beq_iff_eq.mpr c103
                        have c103b1 : (t210 != x7_1) = false := bne_eq_false_iff_eq.mpr c103
                        clear c103
                        have H' := Aside0.mk H
                        clear H
                        go_wp2_with (first | (go_at_call 13; (with_reducible refine (front_Front_Shut.calls g181 x182000_1 x182001_1 x182002_1 x182003_1 x182004_1 x182005_1 t210 t211 t212 t213 t214 t215 t216 w _ ?side1 ?side2 A102.out).mono ?_); (case side1 => repeat (first | (with_reducible first | exact HI181.out | apply IsS40.alloc | apply IsS40.drewN | apply IsS40.drew | apply IsS40.set_0 | apply IsS40.set_1 | apply IsS40.set_2 | apply IsS40.set_3 | apply IsS40.set_4 | apply IsS40.set_5 | refine IsS40.far ?_ NB181_173.out _ | refine IsS40.far ?_ NB181_184.out _) | exact HI181.out)); (case side2 => repeat (first | (with_reducible first | exact HB.out | apply below_alloc | apply pw_below_drewN | apply below_drew1 | refine below_set ?_ (IsS40.ge HI181.out) | refine below_set ?_ GE173.out | refine below_set ?_ GE184.out) | exact HB.out)); rintro e w104 ⟨rfl, hi, hb, hk⟩; have n0_ := Aside0.mk (KeepBut.blk hk (g' := gb173) (o := .cells #[.int .i64 a0_0, .int .i64 a0_1, .int .i64 a0_2, .int .i64 a0_3] 23 (0, 0)) (by (with_reducible repeat (first | refine blk_drewN ?_ _ | refine blk_drew ?_ | refine blk_alloc ?_ _)); exact BK173.out) NB173_181.out (by simp)); have n1_ := Aside0.mk (KeepBut.blk hk (g' := gb184) (o := .cells #[.int .i64 ((rd_T30 l1 x9_1).f0), .int .i64 ((rd_T30 l1 x9_1).f1), .int .i64 ((rd_T30 l1 x9_1).f2)] 30 (0, 0)) (by (with_reducible repeat (first | refine blk_drewN ?_ _ | refine blk_drew ?_ | refine blk_alloc ?_ _)); exact BK184.out) NB184_181.out (by simp)); have n2_ := Aside0.mk (hb); have n3_ := Aside0.mk (hi); clear BK173; clear BK184; clear HB; clear HI181; have BK173 := n0_; have BK184 := n1_; have HB := n2_; have HI181 := n3_; clear n0_ n1_ n2_ n3_; (try clear hb); (try clear hb2); (try clear hk); (try clear hi)))
                        repeat (go_quiet (first | (go_at_call 13; (with_reducible refine (front_Front_Shut.calls g181 x182000_1 x182001_1 x182002_1 x182003_1 x182004_1 x182005_1 t210 t211 t212 t213 t214 t215 t216 w _ ?side1 ?side2 A102.out).mono ?_); (case side1 => repeat (first | (with_reducible first | exact HI181.out | apply IsS40.alloc | apply IsS40.drewN | apply IsS40.drew | apply IsS40.set_0 | apply IsS40.set_1 | apply IsS40.set_2 | apply IsS40.set_3 | apply IsS40.set_4 | apply IsS40.set_5 | refine IsS40.far ?_ NB181_173.out _ | refine IsS40.far ?_ NB181_184.out _) | exact HI181.out)); (case side2 => repeat (first | (with_reducible first | exact HB.out | apply below_alloc | apply pw_below_drewN | apply below_drew1 | refine below_set ?_ (IsS40.ge HI181.out) | refine below_set ?_ GE173.out | refine below_set ?_ GE184.out) | exact HB.out)); rintro e w104 ⟨rfl, hi, hb, hk⟩; have n0_ := Aside0.mk (KeepBut.blk hk (g' := gb173) (o := .cells #[.int .i64 a0_0, .int .i64 a0_1, .int .i64 a0_2, .int .i64 a0_3] 23 (0, 0)) (by (with_reducible repeat (first | refine blk_drewN ?_ _ | refine blk_drew ?_ | refine blk_alloc ?_ _)); exact BK173.out) NB173_181.out (by simp)); have n1_ := Aside0.mk (KeepBut.blk hk (g' := gb184) (o := .cells #[.int .i64 ((rd_T30 l1 x9_1).f0), .int .i64 ((rd_T30 l1 x9_1).f1), .int .i64 ((rd_T30 l1 x9_1).f2)] 30 (0, 0)) (by (with_reducible repeat (first | refine blk_drewN ?_ _ | refine blk_drew ?_ | refine blk_alloc ?_ _)); exact BK184.out) NB184_181.out (by simp)); have n2_ := Aside0.mk (hb); have n3_ := Aside0.mk (hi); clear BK173; clear BK184; clear HB; clear HI181; have BK173 := n0_; have BK184 := n1_; have HB := n2_; have HI181 := n3_; clear n0_ n1_ n2_ n3_; (try clear hb); (try clear hb2); (try clear hk); (try clear hi))); try go_wp2_with (first | (go_at_call 13; (with_reducible refine (front_Front_Shut.calls g181 x182000_1 x182001_1 x182002_1 x182003_1 x182004_1 x182005_1 t210 t211 t212 t213 t214 t215 t216 w _ ?side1 ?side2 A102.out).mono ?_); (case side1 => repeat (first | (with_reducible first | exact HI181.out | apply IsS40.alloc | apply IsS40.drewN | apply IsS40.drew | apply IsS40.set_0 | apply IsS40.set_1 | apply IsS40.set_2 | apply IsS40.set_3 | apply IsS40.set_4 | apply IsS40.set_5 | refine IsS40.far ?_ NB181_173.out _ | refine IsS40.far ?_ NB181_184.out _) | exact HI181.out)); (case side2 => repeat (first | (with_reducible first | exact HB.out | apply below_alloc | apply pw_below_drewN | apply below_drew1 | refine below_set ?_ (IsS40.ge HI181.out) | refine below_set ?_ GE173.out | refine below_set ?_ GE184.out) | exact HB.out)); rintro e w104 ⟨rfl, hi, hb, hk⟩; have n0_ := Aside0.mk (KeepBut.blk hk (g' := gb173) (o := .cells #[.int .i64 a0_0, .int .i64 a0_1, .int .i64 a0_2, .int .i64 a0_3] 23 (0, 0)) (by (with_reducible repeat (first | refine blk_drewN ?_ _ | refine blk_drew ?_ | refine blk_alloc ?_ _)); exact BK173.out) NB173_181.out (by simp)); have n1_ := Aside0.mk (KeepBut.blk hk (g' := gb184) (o := .cells #[.int .i64 ((rd_T30 l1 x9_1).f0), .int .i64 ((rd_T30 l1 x9_1).f1), .int .i64 ((rd_T30 l1 x9_1).f2)] 30 (0, 0)) (by (with_reducible repeat (first | refine blk_drewN ?_ _ | refine blk_drew ?_ | refine blk_alloc ?_ _)); exact BK184.out) NB184_181.out (by simp)); have n2_ := Aside0.mk (hb); have n3_ := Aside0.mk (hi); clear BK173; clear BK184; clear HB; clear HI181; have BK173 := n0_; have BK184 := n1_; have HB := n2_; have HI181 := n3_; clear n0_ n1_ n2_ n3_; (try clear hb); (try clear hb2); (try clear hk); (try clear hi))))
                        go_meet
                        case rel => exact ⟨_, ((-1)), (x8_1), (t211), (t212), (t213), (t214), (t215), (t216), (by first | rfl | (simp; done) | (simp [*]; done)), (by first | rfl | (simp; done) | (simp [*]; done)), H', ⟨by have := HK1.out; have := HJ23.out; have := HJ66.out; first | omega | exact Nat.le_refl _⟩, ⟨by (with_reducible repeat (first | refine blk_drewN ?_ _ | refine blk_drew ?_ | refine blk_alloc ?_ _)); exact BK173.out⟩, ⟨by (with_reducible repeat (first | refine blk_drewN ?_ _ | refine blk_drew ?_ | refine blk_alloc ?_ _)); exact BK184.out⟩, ⟨by repeat (first | (with_reducible first | exact HI181.out | apply IsS40.alloc | apply IsS40.drewN | apply IsS40.drew | apply IsS40.set_0 | apply IsS40.set_1 | apply IsS40.set_2 | apply IsS40.set_3 | apply IsS40.set_4 | apply IsS40.set_5 | refine IsS40.far ?_ NB181_173.out _ | refine IsS40.far ?_ NB181_184.out _) | exact HI181.out)⟩, ⟨by repeat (first | (with_reducible first | exact HB.out | apply below_alloc | apply pw_below_drewN | apply below_drew1 | refine below_set ?_ (IsS40.ge HI181.out) | refine below_set ?_ GE173.out | refine below_set ?_ GE184.out) | exact HB.out)⟩⟩
                      ·
                       rw [if_neg c103] at H
                       have c103b0 : (t210 == x7_1) = false := beq_eq_false_iff_ne.mpr c103
                       have c103b1 : (t210 != x7_1) = true := bne_iff_ne.mpr c103
                       obtain rfl := Option.some.inj H
                       go_wp2_with (first | (go_at_call 13; (with_reducible refine (front_Front_Shut.calls g181 x182000_1 x182001_1 x182002_1 x182003_1 x182004_1 x182005_1 t210 t211 t212 t213 t214 t215 t216 w _ ?side1 ?side2 A102.out).mono ?_); (case side1 => repeat (first | (with_reducible first | exact HI181.out | apply IsS40.alloc | apply IsS40.drewN | apply IsS40.drew | apply IsS40.set_0 | apply IsS40.set_1 | apply IsS40.set_2 | apply IsS40.set_3 | apply IsS40.set_4 | apply IsS40.set_5 | refine IsS40.far ?_ NB181_173.out _ | refine IsS40.far ?_ NB181_184.out _) | exact HI181.out)); (case side2 => repeat (first | (with_reducible first | exact HB.out | apply below_alloc | apply pw_below_drewN | apply below_drew1 | refine below_set ?_ (IsS40.ge HI181.out) | refine below_set ?_ GE173.out | refine below_set ?_ GE184.out) | exact HB.out)); rintro e w105 ⟨rfl, hi, hb, hk⟩; have n0_ := Aside0.mk (KeepBut.blk hk (g' := gb173) (o := .cells #[.int .i64 a0_0, .int .i64 a0_1, .int .i64 a0_2, .int .i64 a0_3] 23 (0, 0)) (by (with_reducible repeat (first | refine blk_drewN ?_ _ | refine blk_drew ?_ | refine blk_alloc ?_ _)); exact BK173.out) NB173_181.out (by simp)); have n1_ := Aside0.mk (KeepBut.blk hk (g' := gb184) (o := .cells #[.int .i64 ((rd_T30 l1 x9_1).f0), .int .i64 ((rd_T30 l1 x9_1).f1), .int .i64 ((rd_T30 l1 x9_1).f2)] 30 (0, 0)) (by (with_reducible repeat (first | refine blk_drewN ?_ _ | refine blk_drew ?_ | refine blk_alloc ?_ _)); exact BK184.out) NB184_181.out (by simp)); have n2_ := Aside0.mk (hb); have n3_ := Aside0.mk (hi); clear BK173; clear BK184; clear HB; clear HI181; have BK173 := n0_; have BK184 := n1_; have HB := n2_; have HI181 := n3_; clear n0_ n1_ n2_ n3_; (try clear hb); (try clear hb2); (try clear hk); (try clear hi)))
                       repeat (go_quiet (first | (go_at_call 13; (with_reducible refine (front_Front_Shut.calls g181 x182000_1 x182001_1 x182002_1 x182003_1 x182004_1 x182005_1 t210 t211 t212 t213 t214 t215 t216 w _ ?side1 ?side2 A102.out).mono ?_); (case side1 => repeat (first | (with_reducible first | exact HI181.out | apply IsS40.alloc | apply IsS40.drewN | apply IsS40.drew | apply IsS40.set_0 | apply IsS40.set_1 | apply IsS40.set_2 | apply IsS40.set_3 | apply IsS40.set_4 | apply IsS40.set_5 | refine IsS40.far ?_ NB181_173.out _ | refine IsS40.far ?_ NB181_184.out _) | exact HI181.out)); (case side2 => repeat (first | (with_reducible first | exact HB.out | apply below_alloc | apply pw_below_drewN | apply below_drew1 | refine below_set ?_ (IsS40.ge HI181.out) | refine below_set ?_ GE173.out | refine below_set ?_ GE184.out) | exact HB.out)); rintro e w105 ⟨rfl, hi, hb, hk⟩; have n0_ := Aside0.mk (KeepBut.blk hk (g' := gb173) (o := .cells #[.int .i64 a0_0, .int .i64 a0_1, .int .i64 a0_2, .int .i64 a0_3] 23 (0, 0)) (by (with_reducible repeat (first | refine blk_drewN ?_ _ | refine blk_drew ?_ | refine blk_alloc ?_ _)); exact BK173.out) NB173_181.out (by simp)); have n1_ := Aside0.mk (KeepBut.blk hk (g' := gb184) (o := .cells #[.int .i64 ((rd_T30 l1 x9_1).f0), .int .i64 ((rd_T30 l1 x9_1).f1), .int .i64 ((rd_T30 l1 x9_1).f2)] 30 (0, 0)) (by (with_reducible repeat (first | refine blk_drewN ?_ _ | refine blk_drew ?_ | refine blk_alloc ?_ _)); exact BK184.out) NB184_181.out (by simp)); have n2_ := Aside0.mk (hb); have n3_ := Aside0.mk (hi); clear BK173; clear BK184; clear HB; clear HI181; have BK173 := n0_; have BK184 := n1_; have HB := n2_; have HI181 := n3_; clear n0_ n1_ n2_ n3_; (try clear hb); (try clear hb2); (try clear hk); (try clear hi))); try go_wp2_with (first | (go_at_call 13; (with_reducible refine (front_Front_Shut.calls g181 x182000_1 x182001_1 x182002_1 x182003_1 x182004_1 x182005_1 t210 t211 t212 t213 t214 t215 t216 w _ ?side1 ?side2 A102.out).mono ?_); (case side1 => repeat (first | (with_reducible first | exact HI181.out | apply IsS40.alloc | apply IsS40.drewN | apply IsS40.drew | apply IsS40.set_0 | apply IsS40.set_1 | apply IsS40.set_2 | apply IsS40.set_3 | apply IsS40.set_4 | apply IsS40.set_5 | refine IsS40.far ?_ NB181_173.out _ | refine IsS40.far ?_ NB181_184.out _) | exact HI181.out)); (case side2 => repeat (first | (with_reducible first | exact HB.out | apply below_alloc | apply pw_below_drewN | apply below_drew1 | refine below_set ?_ (IsS40.ge HI181.out) | refine below_set ?_ GE173.out | refine below_set ?_ GE184.out) | exact HB.out)); rintro e w105 ⟨rfl, hi, hb, hk⟩; have n0_ := Aside0.mk (KeepBut.blk hk (g' := gb173) (o := .cells #[.int .i64 a0_0, .int .i64 a0_1, .int .i64 a0_2, .int .i64 a0_3] 23 (0, 0)) (by (with_reducible repeat (first | refine blk_drewN ?_ _ | refine blk_drew ?_ | refine blk_alloc ?_ _)); exact BK173.out) NB173_181.out (by simp)); have n1_ := Aside0.mk (KeepBut.blk hk (g' := gb184) (o := .cells #[.int .i64 ((rd_T30 l1 x9_1).f0), .int .i64 ((rd_T30 l1 x9_1).f1), .int .i64 ((rd_T30 l1 x9_1).f2)] 30 (0, 0)) (by (with_reducible repeat (first | refine blk_drewN ?_ _ | refine blk_drew ?_ | refine blk_alloc ?_ _)); exact BK184.out) NB184_181.out (by simp)); have n2_ := Aside0.mk (hb); have n3_ := Aside0.mk (hi); clear BK173; clear BK184; clear HB; clear HI181; have BK173 := n0_; have BK184 := n1_; have HB := n2_; have HI181 := n3_; clear n0_ n1_ n2_ n3_; (try clear hb); (try clear hb2); (try clear hk); (try clear hi))))
                       go_ret
                       exact ⟨by first | rfl | (simp [errW_none, errW_some] <;> rfl) | (simp [*, errW_none, errW_some] <;> rfl), by repeat (first | (with_reducible first | exact HB.out | apply below_alloc | apply pw_below_drewN | apply below_drew1 | refine below_set ?_ (IsS40.ge HI181.out) | refine below_set ?_ GE173.out | refine below_set ?_ GE184.out) | exact HB.out)⟩
                    ·
                     rw [if_neg c101] at H
                     have c101b0 : (((rd_T30 l1 x9_1).f0) == 6) = false := beq_eq_false_iff_ne.mpr c101
                     have c101b1 : (((rd_T30 l1 x9_1).f0) != 6) = true := bne_iff_ne.mpr c101
                     have H' := Aside0.mk H
                     clear H
                     go_wp2
                     repeat (go_quiet (fail); try go_wp2)
                     go_meet
                     case rel => exact ⟨_, (x7_1), (x8_1), (x182000_1), (x182001_1), (x182002_1), (x182003_1), (x182004_1), (x182005_1), (by first | rfl | (simp; done) | (simp [*]; done)), (by first | rfl | (simp; done) | (simp [*]; done)), H', ⟨by have := HK1.out; have := HJ23.out; have := HJ66.out; first | omega | exact Nat.le_refl _⟩, ⟨by (with_reducible repeat (first | refine blk_drewN ?_ _ | refine blk_drew ?_ | refine blk_alloc ?_ _)); exact BK173.out⟩, ⟨by (with_reducible repeat (first | refine blk_drewN ?_ _ | refine blk_drew ?_ | refine blk_alloc ?_ _)); exact BK184.out⟩, ⟨by repeat (first | (with_reducible first | exact HI181.out | apply IsS40.alloc | apply IsS40.drewN | apply IsS40.drew | apply IsS40.set_0 | apply IsS40.set_1 | apply IsS40.set_2 | apply IsS40.set_3 | apply IsS40.set_4 | apply IsS40.set_5 | refine IsS40.far ?_ NB181_173.out _ | refine IsS40.far ?_ NB181_184.out _) | exact HI181.out)⟩, ⟨by repeat (first | (with_reducible first | exact HB.out | apply below_alloc | apply pw_below_drewN | apply below_drew1 | refine below_set ?_ (IsS40.ge HI181.out) | refine below_set ?_ GE173.out | refine below_set ?_ GE184.out) | exact HB.out)⟩⟩
           case rest =>
            clear HC19
            try clear c1
            try clear p1
            try clear q1
            try clear hx1
            try clear c2
            try clear p2
            try clear c3
            try clear c4
            try clear c5
            try clear c5b0
            try clear c5b1
            try clear c6
            try clear p6
            try clear c7
            try clear c8
            try clear c9
            try clear c10
            try clear c14
            try clear c17
            try clear c17b0
            try clear c18
            try clear c18b0
            try clear p18
            try clear q18
            try clear hx18
            try clear c21
            try clear c22
            try clear c25
            try clear c25b0
            try clear c25b1
            try clear c26
            try clear c28
            try clear c29
            try clear c29b0
            try clear c30
            try clear c30b0
            try clear c31
            try clear c31b0
            try clear c32
            try clear c32b0
            try clear c33
            try clear c34
            try clear c36
            try clear c38
            try clear c39
            try clear c41
            try clear c43
            try clear c44
            try clear c46
            try clear c48
            try clear c49
            try clear c52
            try clear c52b0
            try clear c52b1
            try clear c52b2
            try clear c53
            try clear c54
            try clear c57
            try clear c58
            try clear c59
            try clear c63
            try clear c64
            try clear p64
            try clear c68
            try clear c68b0
            try clear c68b1
            try clear c69
            try clear c69b0
            try clear c69b1
            try clear c70
            try clear c70b0
            try clear c70b1
            try clear c71
            try clear c75
            try clear c76
            try clear c78
            try clear c78b0
            try clear c82
            try clear c82b0
            try clear c82b1
            try clear c82b2
            try clear c83
            try clear c84
            try clear c84b0
            try clear c84b1
            try clear c85
            try clear c85b0
            try clear c85b1
            try clear c86
            try clear c86b0
            try clear c86b1
            try clear c87
            try clear c89
            try clear c90
            try clear c91
            try clear c93
            try clear c94
            try clear c94b0
            try clear c94b1
            try clear c95
            try clear c96
            try clear c98
            try clear c99
            try clear c101
            try clear c101b0
            try clear c101b1
            try clear c103
            try clear c103b0
            try clear c103b1
            try clear hcz100_0
            try clear hcz100_1
            try clear hcz100_2
            try clear hcz100_3
            try clear hcz12_0
            try clear hcz12_1
            try clear hcz12_2
            try clear hcz12_3
            try clear hcz15_0
            try clear hcz15_1
            try clear hcz15_2
            try clear hcz15_3
            try clear hcz23_0
            try clear hcz23_1
            try clear hcz23_2
            try clear hcz35_0
            try clear hcz35_1
            try clear hcz35_2
            try clear hcz37_0
            try clear hcz37_1
            try clear hcz37_2
            try clear hcz37_3
            try clear hcz40_0
            try clear hcz40_1
            try clear hcz40_2
            try clear hcz42_0
            try clear hcz42_1
            try clear hcz42_2
            try clear hcz42_3
            try clear hcz45_0
            try clear hcz45_1
            try clear hcz45_2
            try clear hcz47_0
            try clear hcz47_1
            try clear hcz47_2
            try clear hcz47_3
            try clear hcz50_0
            try clear hcz50_1
            try clear hcz50_2
            try clear hcz55_0
            try clear hcz55_1
            try clear hcz55_2
            try clear hcz60_0
            try clear hcz60_1
            try clear hcz60_2
            try clear hcz62_0
            try clear hcz62_1
            try clear hcz62_2
            try clear hcz65_0
            try clear hcz65_1
            try clear hcz65_2
            try clear hcz77_0
            try clear hcz77_1
            try clear hcz77_2
            try clear hcz92_0
            try clear hcz92_1
            try clear hcz92_2
            try clear hcz97_0
            try clear hcz97_1
            try clear hcz97_2
            try clear hcz97_3
            try clear hfz100_0
            try clear hfz100_1
            try clear hfz100_2
            try clear hfz100_3
            try clear hfz12_0
            try clear hfz12_1
            try clear hfz12_2
            try clear hfz12_3
            try clear hfz15_0
            try clear hfz15_1
            try clear hfz15_2
            try clear hfz15_3
            try clear hfz23_0
            try clear hfz23_1
            try clear hfz23_2
            try clear hfz35_0
            try clear hfz35_1
            try clear hfz35_2
            try clear hfz37_0
            try clear hfz37_1
            try clear hfz37_2
            try clear hfz37_3
            try clear hfz40_0
            try clear hfz40_1
            try clear hfz40_2
            try clear hfz42_0
            try clear hfz42_1
            try clear hfz42_2
            try clear hfz42_3
            try clear hfz45_0
            try clear hfz45_1
            try clear hfz45_2
            try clear hfz47_0
            try clear hfz47_1
            try clear hfz47_2
            try clear hfz47_3
            try clear hfz50_0
            try clear hfz50_1
            try clear hfz50_2
            try clear hfz55_0
            try clear hfz55_1
            try clear hfz55_2
            try clear hfz60_0
            try clear hfz60_1
            try clear hfz60_2
            try clear hfz62_0
            try clear hfz62_1
            try clear hfz62_2
            try clear hfz65_0
            try clear hfz65_1
            try clear hfz65_2
            try clear hfz77_0
            try clear hfz77_1
            try clear hfz77_2
            try clear hfz92_0
            try clear hfz92_1
            try clear hfz92_2
            try clear hfz97_0
            try clear hfz97_1
            try clear hfz97_2
            try clear hfz97_3
            try clear hx183_0
            try clear hx183_1
            try clear hx183_2
            try clear p1
            try clear p18
            try clear p183
            try clear p2
            try clear q1
            try clear q18
            try clear q183
            obtain ⟨kq, x7_18, x8_18, x182000_18, x182001_18, x182002_18, x182003_18, x182004_18, x182005_18, rfl, rfl, HA, HJ18, BK173, BK184, HI181, HB⟩ := hcut
            cases kq with
            | zero => exact absurd HA.out (by simp [blackboardlaw17_FrontPlays.j7])
            | succ kj18 =>
             have H := HA.out
             clear HA
             simp only [blackboardlaw17_FrontPlays.j7] at H
             have HC106 := Aside0.mk H
             clear H
             go_upto_if 152 with (fail)
             repeat (go_quiet (fail); go_upto_if 152 with (fail))
             go_cut [15] (fun v15 wc => ∃ (kq : Nat) (x15_105 : Int), v15 = .int .i64 x15_105 ∧ Aside0 (blackboardlaw17_FrontPlays.j8 kq l1 t182 x7_18 x8_18 x9_1 x15_105 a0_0 a0_1 a0_2 a0_3 x182000_18 x182001_18 x182002_18 x182003_18 x182004_18 x182005_18 = some r) ∧ Aside0 (kq ≤ kj18) ∧ Aside0 (wc.heap[gb173]? = some (.cells #[.int .i64 a0_0, .int .i64 a0_1, .int .i64 a0_2, .int .i64 a0_3] 23 (0, 0))) ∧ Aside0 (wc.heap[gb184]? = some (.cells #[.int .i64 ((rd_T30 l1 x9_1).f0), .int .i64 ((rd_T30 l1 x9_1).f1), .int .i64 ((rd_T30 l1 x9_1).f2)] 30 (0, 0))) ∧ Aside0 (IsS40 w wc g181 x182000_18 x182001_18 x182002_18 x182003_18 x182004_18 x182005_18) ∧ Aside0 (Below w.heap.size w wc))
             case first =>
              have H := HC106.out
              clear HC106
              by_cases c107 : x7_18 ≥ 0
              ·
               rw [if_pos c107] at H
               have c107b0 : decide (0 ≤ x7_18) = true := decide_eq_true c107
               clear c107
               (first | rw [c107b0] | (simp only [i64_w, i32_w]; rw [c107b0]) | skip)
               have H' := Aside0.mk H
               clear H
               have hnb108 := NB173_184.out
               have hnc108 := NB184_173.out
               have hnb109 := NB173_181.out
               have hnc109 := NB181_173.out
               have hcz110_0 : wc.cell? ⟨gb173, 0, none⟩ = some (.int .i64 a0_0) := (blk_cell BK173.out 0).trans rfl
               have hcz110_1 : wc.cell? ⟨gb173, 1, none⟩ = some (.int .i64 a0_1) := (blk_cell BK173.out 1).trans rfl
               have hcz110_2 : wc.cell? ⟨gb173, 2, none⟩ = some (.int .i64 a0_2) := (blk_cell BK173.out 2).trans rfl
               have hcz110_3 : wc.cell? ⟨gb173, 3, none⟩ = some (.int .i64 a0_3) := (blk_cell BK173.out 3).trans rfl
               have hfz110_0 := blk_frozen BK173.out 0
               have hfz110_1 := blk_frozen BK173.out 1
               have hfz110_2 := blk_frozen BK173.out 2
               have hfz110_3 := blk_frozen BK173.out 3
               go_wp2
               repeat (go_quiet (fail); try go_wp2)
               go_meet
               case rel => exact ⟨_, (wrap64 (a0_1 - x8_18)), (by first | rfl | (simp; done) | (simp [*]; done)), H', ⟨by have := HK1.out; have := HJ18.out; first | omega | exact Nat.le_refl _⟩, ⟨by (with_reducible repeat (first | refine blk_drewN ?_ _ | refine blk_drew ?_ | refine blk_alloc ?_ _)); exact BK173.out⟩, ⟨by (with_reducible repeat (first | refine blk_drewN ?_ _ | refine blk_drew ?_ | refine blk_alloc ?_ _)); exact BK184.out⟩, ⟨by repeat (first | (with_reducible first | exact HI181.out | apply IsS40.alloc | apply IsS40.drewN | apply IsS40.drew | apply IsS40.set_0 | apply IsS40.set_1 | apply IsS40.set_2 | apply IsS40.set_3 | apply IsS40.set_4 | apply IsS40.set_5 | refine IsS40.far ?_ NB181_173.out _ | refine IsS40.far ?_ NB181_184.out _) | exact HI181.out)⟩, ⟨by repeat (first | (with_reducible first | exact HB.out | apply below_alloc | apply pw_below_drewN | apply below_drew1 | refine below_set ?_ (IsS40.ge HI181.out) | refine below_set ?_ GE173.out | refine below_set ?_ GE184.out) | exact HB.out)⟩⟩
              ·
               rw [if_neg c107] at H
               have c107b0 : decide (0 ≤ x7_18) = false := decide_eq_false c107
               clear c107
               (first | rw [c107b0] | (simp only [i64_w, i32_w]; rw [c107b0]) | skip)
               have H' := Aside0.mk H
               clear H
               go_wp2
               repeat (go_quiet (fail); try go_wp2)
               go_meet
               case rel => exact ⟨_, (0), (by first | rfl | (simp; done) | (simp [*]; done)), H', ⟨by have := HK1.out; have := HJ18.out; first | omega | exact Nat.le_refl _⟩, ⟨by (with_reducible repeat (first | refine blk_drewN ?_ _ | refine blk_drew ?_ | refine blk_alloc ?_ _)); exact BK173.out⟩, ⟨by (with_reducible repeat (first | refine blk_drewN ?_ _ | refine blk_drew ?_ | refine blk_alloc ?_ _)); exact BK184.out⟩, ⟨by repeat (first | (with_reducible first | exact HI181.out | apply IsS40.alloc | apply IsS40.drewN | apply IsS40.drew | apply IsS40.set_0 | apply IsS40.set_1 | apply IsS40.set_2 | apply IsS40.set_3 | apply IsS40.set_4 | apply IsS40.set_5 | refine IsS40.far ?_ NB181_173.out _ | refine IsS40.far ?_ NB181_184.out _) | exact HI181.out)⟩, ⟨by repeat (first | (with_reducible first | exact HB.out | apply below_alloc | apply pw_below_drewN | apply below_drew1 | refine below_set ?_ (IsS40.ge HI181.out) | refine below_set ?_ GE173.out | refine below_set ?_ GE184.out) | exact HB.out)⟩⟩
             case rest =>
              clear HC106
              try clear c1
              try clear p1
              try clear q1
              try clear hx1
              try clear c2
              try clear p2
              try clear c3
              try clear c4
              try clear c5
              try clear c5b0
              try clear c5b1
              try clear c6
              try clear p6
              try clear c7
              try clear c8
              try clear c9
              try clear c10
              try clear c14
              try clear c17
              try clear c17b0
              try clear c18
              try clear c18b0
              try clear p18
              try clear q18
              try clear hx18
              try clear c21
              try clear c22
              try clear c25
              try clear c25b0
              try clear c25b1
              try clear c26
              try clear c28
              try clear c29
              try clear c29b0
              try clear c30
              try clear c30b0
              try clear c31
              try clear c31b0
              try clear c32
              try clear c32b0
              try clear c33
              try clear c34
              try clear c36
              try clear c38
              try clear c39
              try clear c41
              try clear c43
              try clear c44
              try clear c46
              try clear c48
              try clear c49
              try clear c52
              try clear c52b0
              try clear c52b1
              try clear c52b2
              try clear c53
              try clear c54
              try clear c57
              try clear c58
              try clear c59
              try clear c63
              try clear c64
              try clear p64
              try clear c68
              try clear c68b0
              try clear c68b1
              try clear c69
              try clear c69b0
              try clear c69b1
              try clear c70
              try clear c70b0
              try clear c70b1
              try clear c71
              try clear c75
              try clear c76
              try clear c78
              try clear c78b0
              try clear c82
              try clear c82b0
              try clear c82b1
              try clear c82b2
              try clear c83
              try clear c84
              try clear c84b0
              try clear c84b1
              try clear c85
              try clear c85b0
              try clear c85b1
              try clear c86
              try clear c86b0
              try clear c86b1
              try clear c87
              try clear c89
              try clear c90
              try clear c91
              try clear c93
              try clear c94
              try clear c94b0
              try clear c94b1
              try clear c95
              try clear c96
              try clear c98
              try clear c99
              try clear c101
              try clear c101b0
              try clear c101b1
              try clear c103
              try clear c103b0
              try clear c103b1
              try clear c107
              try clear c107b0
              try clear c108
              try clear c109
              try clear hcz100_0
              try clear hcz100_1
              try clear hcz100_2
              try clear hcz100_3
              try clear hcz110_0
              try clear hcz110_1
              try clear hcz110_2
              try clear hcz110_3
              try clear hcz12_0
              try clear hcz12_1
              try clear hcz12_2
              try clear hcz12_3
              try clear hcz15_0
              try clear hcz15_1
              try clear hcz15_2
              try clear hcz15_3
              try clear hcz23_0
              try clear hcz23_1
              try clear hcz23_2
              try clear hcz35_0
              try clear hcz35_1
              try clear hcz35_2
              try clear hcz37_0
              try clear hcz37_1
              try clear hcz37_2
              try clear hcz37_3
              try clear hcz40_0
              try clear hcz40_1
              try clear hcz40_2
              try clear hcz42_0
              try clear hcz42_1
              try clear hcz42_2
              try clear hcz42_3
              try clear hcz45_0
              try clear hcz45_1
              try clear hcz45_2
              try clear hcz47_0
              try clear hcz47_1
              try clear hcz47_2
              try clear hcz47_3
              try clear hcz50_0
              try clear hcz50_1
              try clear hcz50_2
              try clear hcz55_0
              try clear hcz55_1
              try clear hcz55_2
              try clear hcz60_0
              try clear hcz60_1
              try clear hcz60_2
              try clear hcz62_0
              try clear hcz62_1
              try clear hcz62_2
              try clear hcz65_0
              try clear hcz65_1
              try clear hcz65_2
              try clear hcz77_0
              try clear hcz77_1
              try clear hcz77_2
              try clear hcz92_0
              try clear hcz92_1
              try clear hcz92_2
              try clear hcz97_0
              try clear hcz97_1
              try clear hcz97_2
              try clear hcz97_3
              try clear hfz100_0
              try clear hfz100_1
              try clear hfz100_2
              try clear hfz100_3
              try clear hfz110_0
              try clear hfz110_1
              try clear hfz110_2
              try clear hfz110_3
              try clear hfz12_0
              try clear hfz12_1
              try clear hfz12_2
              try clear hfz12_3
              try clear hfz15_0
              try clear hfz15_1
              try clear hfz15_2
              try clear hfz15_3
              try clear hfz23_0
              try clear hfz23_1
              try clear hfz23_2
              try clear hfz35_0
              try clear hfz35_1
              try clear hfz35_2
              try clear hfz37_0
              try clear hfz37_1
              try clear hfz37_2
              try clear hfz37_3
              try clear hfz40_0
              try clear hfz40_1
              try clear hfz40_2
              try clear hfz42_0
              try clear hfz42_1
              try clear hfz42_2
              try clear hfz42_3
              try clear hfz45_0
              try clear hfz45_1
              try clear hfz45_2
              try clear hfz47_0
              try clear hfz47_1
              try clear hfz47_2
              try clear hfz47_3
              try clear hfz50_0
              try clear hfz50_1
              try clear hfz50_2
              try clear hfz55_0
              try clear hfz55_1
              try clear hfz55_2
              try clear hfz60_0
              try clear hfz60_1
              try clear hfz60_2
              try clear hfz62_0
              try clear hfz62_1
              try clear hfz62_2
              try clear hfz65_0
              try clear hfz65_1
              try clear hfz65_2
              try clear hfz77_0
              try clear hfz77_1
              try clear hfz77_2
              try clear hfz92_0
              try clear hfz92_1
              try clear hfz92_2
              try clear hfz97_0
              try clear hfz97_1
              try clear hfz97_2
              try clear hfz97_3
              try clear hx183_0
              try clear hx183_1
              try clear hx183_2
              try clear p1
              try clear p18
              try clear p183
              try clear p2
              try clear p6
              try clear p64
              try clear q1
              try clear q18
              try clear q183
              obtain ⟨kq, x15_105, rfl, HA, HJ105, BK173, BK184, HI181, HB⟩ := hcut
              cases kq with
              | zero => exact absurd HA.out (by simp [blackboardlaw17_FrontPlays.j8])
              | succ kj105 =>
               have H := HA.out
               clear HA
               simp only [blackboardlaw17_FrontPlays.j8] at H
               replace H := Option.bind_eq_some_iff.mp H
               obtain ⟨⟨t217, t218, t219, t220, t221, t222, t223⟩, A1110, H⟩ := H
               replace H : (if t217 = x7_18 then ((front_Front_Left.f t218 t219 t220 t221 t222 t223).bind fun bt224 => (if bt224.1 = x15_105 then (blackboardlaw17_FrontPlays.l0 kj105 l1 t182 x7_18 x8_18 (wrap64 (x9_1 + 1)) a0_0 a0_1 a0_2 a0_3 bt224.2.1 bt224.2.2.1 bt224.2.2.2.1 bt224.2.2.2.2.1 bt224.2.2.2.2.2.1 bt224.2.2.2.2.2.2) else (some false))) else (some false)) = some r := H
               have A111 := Aside0.mk A1110
               clear A1110
               by_cases c112 : t217 = x7_18
               ·
                as_aux_lemma =>
                 rw [if_pos c112] at H
                 have c112b0 : (t217 == x7_18) = true := beq_iff_eq.mpr c112
                 have c112b1 : (t217 != x7_18) = false := bne_eq_false_iff_eq.mpr c112
                 clear c112
                 replace H := Option.bind_eq_some_iff.mp H
                 obtain ⟨⟨t224, t225, t226, t227, t228, t229, t230⟩, A1130, H⟩ := H
                 replace H : (if t224 = x15_105 then (blackboardlaw17_FrontPlays.l0 kj105 l1 t182 x7_18 x8_18 (wrap64 (x9_1 + 1)) a0_0 a0_1 a0_2 a0_3 t225 t226 t227 t228 t229 t230) else (some false)) = some r := H
                 have A113 := Aside0.mk A1130
                 clear A1130
                 by_cases c114 : t224 = x15_105
                 ·
                  as_aux_lemma =>
                   rw [if_pos c114] at H
                   have c114b0 : (t224 == x15_105) = true := beq_iff_eq.mpr c114
                   have c114b1 : (t224 != x15_105) = false := bne_eq_false_iff_eq.mpr c114
                   clear c114
                   have H' := Aside0.mk H
                   clear H
                   go_wp2_with (first | (go_at_call 14; (with_reducible refine (front_Front_Block.calls g181 x182000_18 x182001_18 x182002_18 x182003_18 x182004_18 x182005_18 t217 t218 t219 t220 t221 t222 t223 w _ ?side1 ?side2 A111.out).mono ?_); (case side1 => repeat (first | (with_reducible first | exact HI181.out | apply IsS40.alloc | apply IsS40.drewN | apply IsS40.drew | apply IsS40.set_0 | apply IsS40.set_1 | apply IsS40.set_2 | apply IsS40.set_3 | apply IsS40.set_4 | apply IsS40.set_5 | refine IsS40.far ?_ NB181_173.out _ | refine IsS40.far ?_ NB181_184.out _) | exact HI181.out)); (case side2 => repeat (first | (with_reducible first | exact HB.out | apply below_alloc | apply pw_below_drewN | apply below_drew1 | refine below_set ?_ (IsS40.ge HI181.out) | refine below_set ?_ GE173.out | refine below_set ?_ GE184.out) | exact HB.out)); rintro e w115 ⟨rfl, hi, hb, hk⟩; have n0_ := Aside0.mk (KeepBut.blk hk (g' := gb173) (o := .cells #[.int .i64 a0_0, .int .i64 a0_1, .int .i64 a0_2, .int .i64 a0_3] 23 (0, 0)) (by (with_reducible repeat (first | refine blk_drewN ?_ _ | refine blk_drew ?_ | refine blk_alloc ?_ _)); exact BK173.out) NB173_181.out (by simp)); have n1_ := Aside0.mk (KeepBut.blk hk (g' := gb184) (o := .cells #[.int .i64 ((rd_T30 l1 x9_1).f0), .int .i64 ((rd_T30 l1 x9_1).f1), .int .i64 ((rd_T30 l1 x9_1).f2)] 30 (0, 0)) (by (with_reducible repeat (first | refine blk_drewN ?_ _ | refine blk_drew ?_ | refine blk_alloc ?_ _)); exact BK184.out) NB184_181.out (by simp)); have n2_ := Aside0.mk (hb); have n3_ := Aside0.mk (hi); clear BK173; clear BK184; clear HB; clear HI181; have BK173 := n0_; have BK184 := n1_; have HB := n2_; have HI181 := n3_; clear n0_ n1_ n2_ n3_; (try clear hb); (try clear hb2); (try clear hk); (try clear hi)) | (go_at_call 15; (with_reducible refine (front_Front_Left.calls g181 t218 t219 t220 t221 t222 t223 t224 t225 t226 t227 t228 t229 t230 w _ ?side1 ?side2 A113.out).mono ?_); (case side1 => repeat (first | (with_reducible first | exact HI181.out | apply IsS40.alloc | apply IsS40.drewN | apply IsS40.drew | apply IsS40.set_0 | apply IsS40.set_1 | apply IsS40.set_2 | apply IsS40.set_3 | apply IsS40.set_4 | apply IsS40.set_5 | refine IsS40.far ?_ NB181_173.out _ | refine IsS40.far ?_ NB181_184.out _) | exact HI181.out)); (case side2 => repeat (first | (with_reducible first | exact HB.out | apply below_alloc | apply pw_below_drewN | apply below_drew1 | refine below_set ?_ (IsS40.ge HI181.out) | refine below_set ?_ GE173.out | refine below_set ?_ GE184.out) | exact HB.out)); rintro e w116 ⟨rfl, hi, hb, hk⟩; have n0_ := Aside0.mk (KeepBut.blk hk (g' := gb173) (o := .cells #[.int .i64 a0_0, .int .i64 a0_1, .int .i64 a0_2, .int .i64 a0_3] 23 (0, 0)) (by (with_reducible repeat (first | refine blk_drewN ?_ _ | refine blk_drew ?_ | refine blk_alloc ?_ _)); exact BK173.out) NB173_181.out (by simp)); have n1_ := Aside0.mk (KeepBut.blk hk (g' := gb184) (o := .cells #[.int .i64 ((rd_T30 l1 x9_1).f0), .int .i64 ((rd_T30 l1 x9_1).f1), .int .i64 ((rd_T30 l1 x9_1).f2)] 30 (0, 0)) (by (with_reducible repeat (first | refine blk_drewN ?_ _ | refine blk_drew ?_ | refine blk_alloc ?_ _)); exact BK184.out) NB184_181.out (by simp)); have n2_ := Aside0.mk (hb); have n3_ := Aside0.mk (hi); clear BK173; clear BK184; clear HB; clear HI181; have BK173 := n0_; have BK184 := n1_; have HB := n2_; have HI181 := n3_; clear n0_ n1_ n2_ n3_; (try clear hb); (try clear hb2); (try clear hk); (try clear hi)))
                   repeat (go_quiet (first | (go_at_call 14; (with_reducible refine (front_Front_Block.calls g181 x182000_18 x182001_18 x182002_18 x182003_18 x182004_18 x182005_18 t217 t218 t219 t220 t221 t222 t223 w _ ?side1 ?side2 A111.out).mono ?_); (case side1 => repeat (first | (with_reducible first | exact HI181.out | apply IsS40.alloc | apply IsS40.drewN | apply IsS40.drew | apply IsS40.set_0 | apply IsS40.set_1 | apply IsS40.set_2 | apply IsS40.set_3 | apply IsS40.set_4 | apply IsS40.set_5 | refine IsS40.far ?_ NB181_173.out _ | refine IsS40.far ?_ NB181_184.out _) | exact HI181.out)); (case side2 => repeat (first | (with_reducible first | exact HB.out | apply below_alloc | apply pw_below_drewN | apply below_drew1 | refine below_set ?_ (IsS40.ge HI181.out) | refine below_set ?_ GE173.out | refine below_set ?_ GE184.out) | exact HB.out)); rintro e w115 ⟨rfl, hi, hb, hk⟩; have n0_ := Aside0.mk (KeepBut.blk hk (g' := gb173) (o := .cells #[.int .i64 a0_0, .int .i64 a0_1, .int .i64 a0_2, .int .i64 a0_3] 23 (0, 0)) (by (with_reducible repeat (first | refine blk_drewN ?_ _ | refine blk_drew ?_ | refine blk_alloc ?_ _)); exact BK173.out) NB173_181.out (by simp)); have n1_ := Aside0.mk (KeepBut.blk hk (g' := gb184) (o := .cells #[.int .i64 ((rd_T30 l1 x9_1).f0), .int .i64 ((rd_T30 l1 x9_1).f1), .int .i64 ((rd_T30 l1 x9_1).f2)] 30 (0, 0)) (by (with_reducible repeat (first | refine blk_drewN ?_ _ | refine blk_drew ?_ | refine blk_alloc ?_ _)); exact BK184.out) NB184_181.out (by simp)); have n2_ := Aside0.mk (hb); have n3_ := Aside0.mk (hi); clear BK173; clear BK184; clear HB; clear HI181; have BK173 := n0_; have BK184 := n1_; have HB := n2_; have HI181 := n3_; clear n0_ n1_ n2_ n3_; (try clear hb); (try clear hb2); (try clear hk); (try clear hi)) | (go_at_call 15; (with_reducible refine (front_Front_Left.calls g181 t218 t219 t220 t221 t222 t223 t224 t225 t226 t227 t228 t229 t230 w _ ?side1 ?side2 A113.out).mono ?_); (case side1 => repeat (first | (with_reducible first | exact HI181.out | apply IsS40.alloc | apply IsS40.drewN | apply IsS40.drew | apply IsS40.set_0 | apply IsS40.set_1 | apply IsS40.set_2 | apply IsS40.set_3 | apply IsS40.set_4 | apply IsS40.set_5 | refine IsS40.far ?_ NB181_173.out _ | refine IsS40.far ?_ NB181_184.out _) | exact HI181.out)); (case side2 => repeat (first | (with_reducible first | exact HB.out | apply below_alloc | apply pw_below_drewN | apply below_drew1 | refine below_set ?_ (IsS40.ge HI181.out) | refine below_set ?_ GE173.out | refine below_set ?_ GE184.out) | exact HB.out)); rintro e w116 ⟨rfl, hi, hb, hk⟩; have n0_ := Aside0.mk (KeepBut.blk hk (g' := gb173) (o := .cells #[.int .i64 a0_0, .int .i64 a0_1, .int .i64 a0_2, .int .i64 a0_3] 23 (0, 0)) (by (with_reducible repeat (first | refine blk_drewN ?_ _ | refine blk_drew ?_ | refine blk_alloc ?_ _)); exact BK173.out) NB173_181.out (by simp)); have n1_ := Aside0.mk (KeepBut.blk hk (g' := gb184) (o := .cells #[.int .i64 ((rd_T30 l1 x9_1).f0), .int .i64 ((rd_T30 l1 x9_1).f1), .int .i64 ((rd_T30 l1 x9_1).f2)] 30 (0, 0)) (by (with_reducible repeat (first | refine blk_drewN ?_ _ | refine blk_drew ?_ | refine blk_alloc ?_ _)); exact BK184.out) NB184_181.out (by simp)); have n2_ := Aside0.mk (hb); have n3_ := Aside0.mk (hi); clear BK173; clear BK184; clear HB; clear HI181; have BK173 := n0_; have BK184 := n1_; have HB := n2_; have HI181 := n3_; clear n0_ n1_ n2_ n3_; (try clear hb); (try clear hb2); (try clear hk); (try clear hi))); try go_wp2_with (first | (go_at_call 14; (with_reducible refine (front_Front_Block.calls g181 x182000_18 x182001_18 x182002_18 x182003_18 x182004_18 x182005_18 t217 t218 t219 t220 t221 t222 t223 w _ ?side1 ?side2 A111.out).mono ?_); (case side1 => repeat (first | (with_reducible first | exact HI181.out | apply IsS40.alloc | apply IsS40.drewN | apply IsS40.drew | apply IsS40.set_0 | apply IsS40.set_1 | apply IsS40.set_2 | apply IsS40.set_3 | apply IsS40.set_4 | apply IsS40.set_5 | refine IsS40.far ?_ NB181_173.out _ | refine IsS40.far ?_ NB181_184.out _) | exact HI181.out)); (case side2 => repeat (first | (with_reducible first | exact HB.out | apply below_alloc | apply pw_below_drewN | apply below_drew1 | refine below_set ?_ (IsS40.ge HI181.out) | refine below_set ?_ GE173.out | refine below_set ?_ GE184.out) | exact HB.out)); rintro e w115 ⟨rfl, hi, hb, hk⟩; have n0_ := Aside0.mk (KeepBut.blk hk (g' := gb173) (o := .cells #[.int .i64 a0_0, .int .i64 a0_1, .int .i64 a0_2, .int .i64 a0_3] 23 (0, 0)) (by (with_reducible repeat (first | refine blk_drewN ?_ _ | refine blk_drew ?_ | refine blk_alloc ?_ _)); exact BK173.out) NB173_181.out (by simp)); have n1_ := Aside0.mk (KeepBut.blk hk (g' := gb184) (o := .cells #[.int .i64 ((rd_T30 l1 x9_1).f0), .int .i64 ((rd_T30 l1 x9_1).f1), .int .i64 ((rd_T30 l1 x9_1).f2)] 30 (0, 0)) (by (with_reducible repeat (first | refine blk_drewN ?_ _ | refine blk_drew ?_ | refine blk_alloc ?_ _)); exact BK184.out) NB184_181.out (by simp)); have n2_ := Aside0.mk (hb); have n3_ := Aside0.mk (hi); clear BK173; clear BK184; clear HB; clear HI181; have BK173 := n0_; have BK184 := n1_; have HB := n2_; have HI181 := n3_; clear n0_ n1_ n2_ n3_; (try clear hb); (try clear hb2); (try clear hk); (try clear hi)) | (go_at_call 15; (with_reducible refine (front_Front_Left.calls g181 t218 t219 t220 t221 t222 t223 t224 t225 t226 t227 t228 t229 t230 w _ ?side1 ?side2 A113.out).mono ?_); (case side1 => repeat (first | (with_reducible first | exact HI181.out | apply IsS40.alloc | apply IsS40.drewN | apply IsS40.drew | apply IsS40.set_0 | apply IsS40.set_1 | apply IsS40.set_2 | apply IsS40.set_3 | apply IsS40.set_4 | apply IsS40.set_5 | refine IsS40.far ?_ NB181_173.out _ | refine IsS40.far ?_ NB181_184.out _) | exact HI181.out)); (case side2 => repeat (first | (with_reducible first | exact HB.out | apply below_alloc | apply pw_below_drewN | apply below_drew1 | refine below_set ?_ (IsS40.ge HI181.out) | refine below_set ?_ GE173.out | refine below_set ?_ GE184.out) | exact HB.out)); rintro e w116 ⟨rfl, hi, hb, hk⟩; have n0_ := Aside0.mk (KeepBut.blk hk (g' := gb173) (o := .cells #[.int .i64 a0_0, .int .i64 a0_1, .int .i64 a0_2, .int .i64 a0_3] 23 (0, 0)) (by (with_reducible repeat (first | refine blk_drewN ?_ _ | refine blk_drew ?_ | refine blk_alloc ?_ _)); exact BK173.out) NB173_181.out (by simp)); have n1_ := Aside0.mk (KeepBut.blk hk (g' := gb184) (o := .cells #[.int .i64 ((rd_T30 l1 x9_1).f0), .int .i64 ((rd_T30 l1 x9_1).f1), .int .i64 ((rd_T30 l1 x9_1).f2)] 30 (0, 0)) (by (with_reducible repeat (first | refine blk_drewN ?_ _ | refine blk_drew ?_ | refine blk_alloc ?_ _)); exact BK184.out) NB184_181.out (by simp)); have n2_ := Aside0.mk (hb); have n3_ := Aside0.mk (hi); clear BK173; clear BK184; clear HB; clear HI181; have BK173 := n0_; have BK184 := n1_; have HB := n2_; have HI181 := n3_; clear n0_ n1_ n2_ n3_; (try clear hb); (try clear hb2); (try clear hk); (try clear hi))))
                   go_roundg kj105
                   case measure => have := HK1.out; have := HJ18.out; have := HJ105.out; omega
                   case rel => exact ⟨(x7_18), (x8_18), (wrap64 (x9_1 + 1)), (t225), (t226), (t227), (t228), (t229), (t230), (by first | rfl | (simp; done) | (simp [*]; done)), (by first | rfl | (simp; done) | (simp [*]; done)), (by first | rfl | (simp; done) | (simp [*]; done)), H', ⟨by have := HK1.out; have := HJ18.out; have := HJ105.out; omega⟩, ⟨by (with_reducible repeat (first | refine blk_drewN ?_ _ | refine blk_drew ?_ | refine blk_alloc ?_ _)); exact BK173.out⟩, ⟨by repeat (first | (with_reducible first | exact HI181.out | apply IsS40.alloc | apply IsS40.drewN | apply IsS40.drew | apply IsS40.set_0 | apply IsS40.set_1 | apply IsS40.set_2 | apply IsS40.set_3 | apply IsS40.set_4 | apply IsS40.set_5 | refine IsS40.far ?_ NB181_173.out _ | refine IsS40.far ?_ NB181_184.out _) | exact HI181.out)⟩, ⟨by repeat (first | (with_reducible first | exact HB.out | apply below_alloc | apply pw_below_drewN | apply below_drew1 | refine below_set ?_ (IsS40.ge HI181.out) | refine below_set ?_ GE173.out | refine below_set ?_ GE184.out) | exact HB.out)⟩⟩
                 ·
                  as_aux_lemma =>
                   rw [if_neg c114] at H
                   have c114b0 : (t224 == x15_105) = false := beq_eq_false_iff_ne.mpr c114
                   have c114b1 : (t224 != x15_105) = true := bne_iff_ne.mpr c114
                   obtain rfl := Option.some.inj H
                   go_wp2_with (first | (go_at_call 14; (with_reducible refine (front_Front_Block.calls g181 x182000_18 x182001_18 x182002_18 x182003_18 x182004_18 x182005_18 t217 t218 t219 t220 t221 t222 t223 w _ ?side1 ?side2 A111.out).mono ?_); (case side1 => repeat (first | (with_reducible first | exact HI181.out | apply IsS40.alloc | apply IsS40.drewN | apply IsS40.drew | apply IsS40.set_0 | apply IsS40.set_1 | apply IsS40.set_2 | apply IsS40.set_3 | apply IsS40.set_4 | apply IsS40.set_5 | refine IsS40.far ?_ NB181_173.out _ | refine IsS40.far ?_ NB181_184.out _) | exact HI181.out)); (case side2 => repeat (first | (with_reducible first | exact HB.out | apply below_alloc | apply pw_below_drewN | apply below_drew1 | refine below_set ?_ (IsS40.ge HI181.out) | refine below_set ?_ GE173.out | refine below_set ?_ GE184.out) | exact HB.out)); rintro e w117 ⟨rfl, hi, hb, hk⟩; have n0_ := Aside0.mk (KeepBut.blk hk (g' := gb173) (o := .cells #[.int .i64 a0_0, .int .i64 a0_1, .int .i64 a0_2, .int .i64 a0_3] 23 (0, 0)) (by (with_reducible repeat (first | refine blk_drewN ?_ _ | refine blk_drew ?_ | refine blk_alloc ?_ _)); exact BK173.out) NB173_181.out (by simp)); have n1_ := Aside0.mk (KeepBut.blk hk (g' := gb184) (o := .cells #[.int .i64 ((rd_T30 l1 x9_1).f0), .int .i64 ((rd_T30 l1 x9_1).f1), .int .i64 ((rd_T30 l1 x9_1).f2)] 30 (0, 0)) (by (with_reducible repeat (first | refine blk_drewN ?_ _ | refine blk_drew ?_ | refine blk_alloc ?_ _)); exact BK184.out) NB184_181.out (by simp)); have n2_ := Aside0.mk (hb); have n3_ := Aside0.mk (hi); clear BK173; clear BK184; clear HB; clear HI181; have BK173 := n0_; have BK184 := n1_; have HB := n2_; have HI181 := n3_; clear n0_ n1_ n2_ n3_; (try clear hb); (try clear hb2); (try clear hk); (try clear hi)) | (go_at_call 15; (with_reducible refine (front_Front_Left.calls g181 t218 t219 t220 t221 t222 t223 t224 t225 t226 t227 t228 t229 t230 w _ ?side1 ?side2 A113.out).mono ?_); (case side1 => repeat (first | (with_reducible first | exact HI181.out | apply IsS40.alloc | apply IsS40.drewN | apply IsS40.drew | apply IsS40.set_0 | apply IsS40.set_1 | apply IsS40.set_2 | apply IsS40.set_3 | apply IsS40.set_4 | apply IsS40.set_5 | refine IsS40.far ?_ NB181_173.out _ | refine IsS40.far ?_ NB181_184.out _) | exact HI181.out)); (case side2 => repeat (first | (with_reducible first | exact HB.out | apply below_alloc | apply pw_below_drewN | apply below_drew1 | refine below_set ?_ (IsS40.ge HI181.out) | refine below_set ?_ GE173.out | refine below_set ?_ GE184.out) | exact HB.out)); rintro e w118 ⟨rfl, hi, hb, hk⟩; have n0_ := Aside0.mk (KeepBut.blk hk (g' := gb173) (o := .cells #[.int .i64 a0_0, .int .i64 a0_1, .int .i64 a0_2, .int .i64 a0_3] 23 (0, 0)) (by (with_reducible repeat (first | refine blk_drewN ?_ _ | refine blk_drew ?_ | refine blk_alloc ?_ _)); exact BK173.out) NB173_181.out (by simp)); have n1_ := Aside0.mk (KeepBut.blk hk (g' := gb184) (o := .cells #[.int .i64 ((rd_T30 l1 x9_1).f0), .int .i64 ((rd_T30 l1 x9_1).f1), .int .i64 ((rd_T30 l1 x9_1).f2)] 30 (0, 0)) (by (with_reducible repeat (first | refine blk_drewN ?_ _ | refine blk_drew ?_ | refine blk_alloc ?_ _)); exact BK184.out) NB184_181.out (by simp)); have n2_ := Aside0.mk (hb); have n3_ := Aside0.mk (hi); clear BK173; clear BK184; clear HB; clear HI181; have BK173 := n0_; have BK184 := n1_; have HB := n2_; have HI181 := n3_; clear n0_ n1_ n2_ n3_; (try clear hb); (try clear hb2); (try clear hk); (try clear hi)))
                   repeat (go_quiet (first | (go_at_call 14; (with_reducible refine (front_Front_Block.calls g181 x182000_18 x182001_18 x182002_18 x182003_18 x182004_18 x182005_18 t217 t218 t219 t220 t221 t222 t223 w _ ?side1 ?side2 A111.out).mono ?_); (case side1 => repeat (first | (with_reducible first | exact HI181.out | apply IsS40.alloc | apply IsS40.drewN | apply IsS40.drew | apply IsS40.set_0 | apply IsS40.set_1 | apply IsS40.set_2 | apply IsS40.set_3 | apply IsS40.set_4 | apply IsS40.set_5 | refine IsS40.far ?_ NB181_173.out _ | refine IsS40.far ?_ NB181_184.out _) | exact HI181.out)); (case side2 => repeat (first | (with_reducible first | exact HB.out | apply below_alloc | apply pw_below_drewN | apply below_drew1 | refine below_set ?_ (IsS40.ge HI181.out) | refine below_set ?_ GE173.out | refine below_set ?_ GE184.out) | exact HB.out)); rintro e w117 ⟨rfl, hi, hb, hk⟩; have n0_ := Aside0.mk (KeepBut.blk hk (g' := gb173) (o := .cells #[.int .i64 a0_0, .int .i64 a0_1, .int .i64 a0_2, .int .i64 a0_3] 23 (0, 0)) (by (with_reducible repeat (first | refine blk_drewN ?_ _ | refine blk_drew ?_ | refine blk_alloc ?_ _)); exact BK173.out) NB173_181.out (by simp)); have n1_ := Aside0.mk (KeepBut.blk hk (g' := gb184) (o := .cells #[.int .i64 ((rd_T30 l1 x9_1).f0), .int .i64 ((rd_T30 l1 x9_1).f1), .int .i64 ((rd_T30 l1 x9_1).f2)] 30 (0, 0)) (by (with_reducible repeat (first | refine blk_drewN ?_ _ | refine blk_drew ?_ | refine blk_alloc ?_ _)); exact BK184.out) NB184_181.out (by simp)); have n2_ := Aside0.mk (hb); have n3_ := Aside0.mk (hi); clear BK173; clear BK184; clear HB; clear HI181; have BK173 := n0_; have BK184 := n1_; have HB := n2_; have HI181 := n3_; clear n0_ n1_ n2_ n3_; (try clear hb); (try clear hb2); (try clear hk); (try clear hi)) | (go_at_call 15; (with_reducible refine (front_Front_Left.calls g181 t218 t219 t220 t221 t222 t223 t224 t225 t226 t227 t228 t229 t230 w _ ?side1 ?side2 A113.out).mono ?_); (case side1 => repeat (first | (with_reducible first | exact HI181.out | apply IsS40.alloc | apply IsS40.drewN | apply IsS40.drew | apply IsS40.set_0 | apply IsS40.set_1 | apply IsS40.set_2 | apply IsS40.set_3 | apply IsS40.set_4 | apply IsS40.set_5 | refine IsS40.far ?_ NB181_173.out _ | refine IsS40.far ?_ NB181_184.out _) | exact HI181.out)); (case side2 => repeat (first | (with_reducible first | exact HB.out | apply below_alloc | apply pw_below_drewN | apply below_drew1 | refine below_set ?_ (IsS40.ge HI181.out) | refine below_set ?_ GE173.out | refine below_set ?_ GE184.out) | exact HB.out)); rintro e w118 ⟨rfl, hi, hb, hk⟩; have n0_ := Aside0.mk (KeepBut.blk hk (g' := gb173) (o := .cells #[.int .i64 a0_0, .int .i64 a0_1, .int .i64 a0_2, .int .i64 a0_3] 23 (0, 0)) (by (with_reducible repeat (first | refine blk_drewN ?_ _ | refine blk_drew ?_ | refine blk_alloc ?_ _)); exact BK173.out) NB173_181.out (by simp)); have n1_ := Aside0.mk (KeepBut.blk hk (g' := gb184) (o := .cells #[.int .i64 ((rd_T30 l1 x9_1).f0), .int .i64 ((rd_T30 l1 x9_1).f1), .int .i64 ((rd_T30 l1 x9_1).f2)] 30 (0, 0)) (by (with_reducible repeat (first | refine blk_drewN ?_ _ | refine blk_drew ?_ | refine blk_alloc ?_ _)); exact BK184.out) NB184_181.out (by simp)); have n2_ := Aside0.mk (hb); have n3_ := Aside0.mk (hi); clear BK173; clear BK184; clear HB; clear HI181; have BK173 := n0_; have BK184 := n1_; have HB := n2_; have HI181 := n3_; clear n0_ n1_ n2_ n3_; (try clear hb); (try clear hb2); (try clear hk); (try clear hi))); try go_wp2_with (first | (go_at_call 14; (with_reducible refine (front_Front_Block.calls g181 x182000_18 x182001_18 x182002_18 x182003_18 x182004_18 x182005_18 t217 t218 t219 t220 t221 t222 t223 w _ ?side1 ?side2 A111.out).mono ?_); (case side1 => repeat (first | (with_reducible first | exact HI181.out | apply IsS40.alloc | apply IsS40.drewN | apply IsS40.drew | apply IsS40.set_0 | apply IsS40.set_1 | apply IsS40.set_2 | apply IsS40.set_3 | apply IsS40.set_4 | apply IsS40.set_5 | refine IsS40.far ?_ NB181_173.out _ | refine IsS40.far ?_ NB181_184.out _) | exact HI181.out)); (case side2 => repeat (first | (with_reducible first | exact HB.out | apply below_alloc | apply pw_below_drewN | apply below_drew1 | refine below_set ?_ (IsS40.ge HI181.out) | refine below_set ?_ GE173.out | refine below_set ?_ GE184.out) | exact HB.out)); rintro e w117 ⟨rfl, hi, hb, hk⟩; have n0_ := Aside0.mk (KeepBut.blk hk (g' := gb173) (o := .cells #[.int .i64 a0_0, .int .i64 a0_1, .int .i64 a0_2, .int .i64 a0_3] 23 (0, 0)) (by (with_reducible repeat (first | refine blk_drewN ?_ _ | refine blk_drew ?_ | refine blk_alloc ?_ _)); exact BK173.out) NB173_181.out (by simp)); have n1_ := Aside0.mk (KeepBut.blk hk (g' := gb184) (o := .cells #[.int .i64 ((rd_T30 l1 x9_1).f0), .int .i64 ((rd_T30 l1 x9_1).f1), .int .i64 ((rd_T30 l1 x9_1).f2)] 30 (0, 0)) (by (with_reducible repeat (first | refine blk_drewN ?_ _ | refine blk_drew ?_ | refine blk_alloc ?_ _)); exact BK184.out) NB184_181.out (by simp)); have n2_ := Aside0.mk (hb); have n3_ := Aside0.mk (hi); clear BK173; clear BK184; clear HB; clear HI181; have BK173 := n0_; have BK184 := n1_; have HB := n2_; have HI181 := n3_; clear n0_ n1_ n2_ n3_; (try clear hb); (try clear hb2); (try clear hk); (try clear hi)) | (go_at_call 15; (with_reducible refine (front_Front_Left.calls g181 t218 t219 t220 t221 t222 t223 t224 t225 t226 t227 t228 t229 t230 w _ ?side1 ?side2 A113.out).mono ?_); (case side1 => repeat (first | (with_reducible first | exact HI181.out | apply IsS40.alloc | apply IsS40.drewN | apply IsS40.drew | apply IsS40.set_0 | apply IsS40.set_1 | apply IsS40.set_2 | apply IsS40.set_3 | apply IsS40.set_4 | apply IsS40.set_5 | refine IsS40.far ?_ NB181_173.out _ | refine IsS40.far ?_ NB181_184.out _) | exact HI181.out)); (case side2 => repeat (first | (with_reducible first | exact HB.out | apply below_alloc | apply pw_below_drewN | apply below_drew1 | refine below_set ?_ (IsS40.ge HI181.out) | refine below_set ?_ GE173.out | refine below_set ?_ GE184.out) | exact HB.out)); rintro e w118 ⟨rfl, hi, hb, hk⟩; have n0_ := Aside0.mk (KeepBut.blk hk (g' := gb173) (o := .cells #[.int .i64 a0_0, .int .i64 a0_1, .int .i64 a0_2, .int .i64 a0_3] 23 (0, 0)) (by (with_reducible repeat (first | refine blk_drewN ?_ _ | refine blk_drew ?_ | refine blk_alloc ?_ _)); exact BK173.out) NB173_181.out (by simp)); have n1_ := Aside0.mk (KeepBut.blk hk (g' := gb184) (o := .cells #[.int .i64 ((rd_T30 l1 x9_1).f0), .int .i64 ((rd_T30 l1 x9_1).f1), .int .i64 ((rd_T30 l1 x9_1).f2)] 30 (0, 0)) (by (with_reducible repeat (first | refine blk_drewN ?_ _ | refine blk_drew ?_ | refine blk_alloc ?_ _)); exact BK184.out) NB184_181.out (by simp)); have n2_ := Aside0.mk (hb); have n3_ := Aside0.mk (hi); clear BK173; clear BK184; clear HB; clear HI181; have BK173 := n0_; have BK184 := n1_; have HB := n2_; have HI181 := n3_; clear n0_ n1_ n2_ n3_; (try clear hb); (try clear hb2); (try clear hk); (try clear hi))))
                   go_ret
                   exact ⟨by first | rfl | (simp [errW_none, errW_some] <;> rfl) | (simp [*, errW_none, errW_some] <;> rfl), by repeat (first | (with_reducible first | exact HB.out | apply below_alloc | apply pw_below_drewN | apply below_drew1 | refine below_set ?_ (IsS40.ge HI181.out) | refine below_set ?_ GE173.out | refine below_set ?_ GE184.out) | exact HB.out)⟩
               ·
                rw [if_neg c112] at H
                have c112b0 : (t217 == x7_18) = false := beq_eq_false_iff_ne.mpr c112
                have c112b1 : (t217 != x7_18) = true := bne_iff_ne.mpr c112
                obtain rfl := Option.some.inj H
                go_wp2_with (first | (go_at_call 14; (with_reducible refine (front_Front_Block.calls g181 x182000_18 x182001_18 x182002_18 x182003_18 x182004_18 x182005_18 t217 t218 t219 t220 t221 t222 t223 w _ ?side1 ?side2 A111.out).mono ?_); (case side1 => repeat (first | (with_reducible first | exact HI181.out | apply IsS40.alloc | apply IsS40.drewN | apply IsS40.drew | apply IsS40.set_0 | apply IsS40.set_1 | apply IsS40.set_2 | apply IsS40.set_3 | apply IsS40.set_4 | apply IsS40.set_5 | refine IsS40.far ?_ NB181_173.out _ | refine IsS40.far ?_ NB181_184.out _) | exact HI181.out)); (case side2 => repeat (first | (with_reducible first | exact HB.out | apply below_alloc | apply pw_below_drewN | apply below_drew1 | refine below_set ?_ (IsS40.ge HI181.out) | refine below_set ?_ GE173.out | refine below_set ?_ GE184.out) | exact HB.out)); rintro e w119 ⟨rfl, hi, hb, hk⟩; have n0_ := Aside0.mk (KeepBut.blk hk (g' := gb173) (o := .cells #[.int .i64 a0_0, .int .i64 a0_1, .int .i64 a0_2, .int .i64 a0_3] 23 (0, 0)) (by (with_reducible repeat (first | refine blk_drewN ?_ _ | refine blk_drew ?_ | refine blk_alloc ?_ _)); exact BK173.out) NB173_181.out (by simp)); have n1_ := Aside0.mk (KeepBut.blk hk (g' := gb184) (o := .cells #[.int .i64 ((rd_T30 l1 x9_1).f0), .int .i64 ((rd_T30 l1 x9_1).f1), .int .i64 ((rd_T30 l1 x9_1).f2)] 30 (0, 0)) (by (with_reducible repeat (first | refine blk_drewN ?_ _ | refine blk_drew ?_ | refine blk_alloc ?_ _)); exact BK184.out) NB184_181.out (by simp)); have n2_ := Aside0.mk (hb); have n3_ := Aside0.mk (hi); clear BK173; clear BK184; clear HB; clear HI181; have BK173 := n0_; have BK184 := n1_; have HB := n2_; have HI181 := n3_; clear n0_ n1_ n2_ n3_; (try clear hb); (try clear hb2); (try clear hk); (try clear hi)))
                repeat (go_quiet (first | (go_at_call 14; (with_reducible refine (front_Front_Block.calls g181 x182000_18 x182001_18 x182002_18 x182003_18 x182004_18 x182005_18 t217 t218 t219 t220 t221 t222 t223 w _ ?side1 ?side2 A111.out).mono ?_); (case side1 => repeat (first | (with_reducible first | exact HI181.out | apply IsS40.alloc | apply IsS40.drewN | apply IsS40.drew | apply IsS40.set_0 | apply IsS40.set_1 | apply IsS40.set_2 | apply IsS40.set_3 | apply IsS40.set_4 | apply IsS40.set_5 | refine IsS40.far ?_ NB181_173.out _ | refine IsS40.far ?_ NB181_184.out _) | exact HI181.out)); (case side2 => repeat (first | (with_reducible first | exact HB.out | apply below_alloc | apply pw_below_drewN | apply below_drew1 | refine below_set ?_ (IsS40.ge HI181.out) | refine below_set ?_ GE173.out | refine below_set ?_ GE184.out) | exact HB.out)); rintro e w119 ⟨rfl, hi, hb, hk⟩; have n0_ := Aside0.mk (KeepBut.blk hk (g' := gb173) (o := .cells #[.int .i64 a0_0, .int .i64 a0_1, .int .i64 a0_2, .int .i64 a0_3] 23 (0, 0)) (by (with_reducible repeat (first | refine blk_drewN ?_ _ | refine blk_drew ?_ | refine blk_alloc ?_ _)); exact BK173.out) NB173_181.out (by simp)); have n1_ := Aside0.mk (KeepBut.blk hk (g' := gb184) (o := .cells #[.int .i64 ((rd_T30 l1 x9_1).f0), .int .i64 ((rd_T30 l1 x9_1).f1), .int .i64 ((rd_T30 l1 x9_1).f2)] 30 (0, 0)) (by (with_reducible repeat (first | refine blk_drewN ?_ _ | refine blk_drew ?_ | refine blk_alloc ?_ _)); exact BK184.out) NB184_181.out (by simp)); have n2_ := Aside0.mk (hb); have n3_ := Aside0.mk (hi); clear BK173; clear BK184; clear HB; clear HI181; have BK173 := n0_; have BK184 := n1_; have HB := n2_; have HI181 := n3_; clear n0_ n1_ n2_ n3_; (try clear hb); (try clear hb2); (try clear hk); (try clear hi))); try go_wp2_with (first | (go_at_call 14; (with_reducible refine (front_Front_Block.calls g181 x182000_18 x182001_18 x182002_18 x182003_18 x182004_18 x182005_18 t217 t218 t219 t220 t221 t222 t223 w _ ?side1 ?side2 A111.out).mono ?_); (case side1 => repeat (first | (with_reducible first | exact HI181.out | apply IsS40.alloc | apply IsS40.drewN | apply IsS40.drew | apply IsS40.set_0 | apply IsS40.set_1 | apply IsS40.set_2 | apply IsS40.set_3 | apply IsS40.set_4 | apply IsS40.set_5 | refine IsS40.far ?_ NB181_173.out _ | refine IsS40.far ?_ NB181_184.out _) | exact HI181.out)); (case side2 => repeat (first | (with_reducible first | exact HB.out | apply below_alloc | apply pw_below_drewN | apply below_drew1 | refine below_set ?_ (IsS40.ge HI181.out) | refine below_set ?_ GE173.out | refine below_set ?_ GE184.out) | exact HB.out)); rintro e w119 ⟨rfl, hi, hb, hk⟩; have n0_ := Aside0.mk (KeepBut.blk hk (g' := gb173) (o := .cells #[.int .i64 a0_0, .int .i64 a0_1, .int .i64 a0_2, .int .i64 a0_3] 23 (0, 0)) (by (with_reducible repeat (first | refine blk_drewN ?_ _ | refine blk_drew ?_ | refine blk_alloc ?_ _)); exact BK173.out) NB173_181.out (by simp)); have n1_ := Aside0.mk (KeepBut.blk hk (g' := gb184) (o := .cells #[.int .i64 ((rd_T30 l1 x9_1).f0), .int .i64 ((rd_T30 l1 x9_1).f1), .int .i64 ((rd_T30 l1 x9_1).f2)] 30 (0, 0)) (by (with_reducible repeat (first | refine blk_drewN ?_ _ | refine blk_drew ?_ | refine blk_alloc ?_ _)); exact BK184.out) NB184_181.out (by simp)); have n2_ := Aside0.mk (hb); have n3_ := Aside0.mk (hi); clear BK173; clear BK184; clear HB; clear HI181; have BK173 := n0_; have BK184 := n1_; have HB := n2_; have HI181 := n3_; clear n0_ n1_ n2_ n3_; (try clear hb); (try clear hb2); (try clear hk); (try clear hi))))
                go_ret
                exact ⟨by first | rfl | (simp [errW_none, errW_some] <;> rfl) | (simp [*, errW_none, errW_some] <;> rfl), by repeat (first | (with_reducible first | exact HB.out | apply below_alloc | apply pw_below_drewN | apply below_drew1 | refine below_set ?_ (IsS40.ge HI181.out) | refine below_set ?_ GE173.out | refine below_set ?_ GE184.out) | exact HB.out)⟩
         ·
          rw [if_neg c18] at H
          exact absurd H (by simp)
       ·
        rw [if_neg c17] at H
        have c17b0 : decide (x9_1 < (l1.length : Int)) = false := decide_eq_false c17
        clear c17
        obtain rfl := Option.some.inj H
        go_wp2
        repeat (go_quiet (fail); try go_wp2)
        go_ret
        exact ⟨by first | rfl | (simp [errW_none, errW_some] <;> rfl) | (simp [*, errW_none, errW_some] <;> rfl), by repeat (first | (with_reducible first | exact HB.out | apply below_alloc | apply pw_below_drewN | apply below_drew1 | refine below_set ?_ (IsS40.ge HI181.out) | refine below_set ?_ GE173.out) | exact HB.out)⟩
 ·
  as_aux_lemma =>
   replace c4 := Bool.eq_false_iff.mpr c4
   subst c4
   have H1 : (some false) = some r := by rw [if_neg (show ¬ (false = true) by decide)] at H; exact H
   clear H
   have H := H1
   clear H1
   obtain rfl := Option.some.inj H
   go_enter Try.func3, Try.ntmps3
   go_wp2_with (first | ((with_reducible refine gate_dst (N := 2) rfl ?_); refine box_event ?hg (N := 2) ?hd (cs := #[.int .i64 a0_0, .int .i64 a0_1, .int .i64 a0_2, .int .i64 a0_3]) (t := 23) ?hr ?_; (case hd => rfl); (case hg => rfl); (case hr => first | (go_simp; done) | (go_simp; rfl)); intro gb173 hg w120 hbox hb; have n0_ := Aside0.mk (below_step (by repeat (first | (with_reducible first | exact HB.out | apply below_alloc | apply pw_below_drewN | apply below_drew1) | exact HB.out)) hb); have n1_ := Aside0.mk (hbox); have n2_ := Aside0.mk ((by rw [hg]; exact (below_size (by repeat (first | (with_reducible first | exact HB.out | apply below_alloc | apply pw_below_drewN | apply below_drew1) | exact HB.out))) : w.heap.size ≤ gb173)); have n3_ := Aside0.mk ((by rw [hg]; exact (below_size (by repeat (first | (with_reducible first | exact HB.out | apply below_alloc | apply pw_below_drewN | apply below_drew1) | exact HB.out))) : w.heap.size ≤ gb173)); clear HB; have HB := n0_; have BK173 := n1_; have GW173 := n2_; have GE173 := n3_; clear n0_ n1_ n2_ n3_; clear hb hbox hg) | (go_at_call 7; (with_reducible refine (blackboardlaw17_awake.calls  false _ A3.out).mono ?_); rintro e w121 ⟨rfl, hb⟩; have n0_ := Aside0.mk (blk_below (g := gb173) (o := .cells #[.int .i64 a0_0, .int .i64 a0_1, .int .i64 a0_2, .int .i64 a0_3] 23 (0, 0)) (by (with_reducible repeat (first | refine blk_drewN ?_ _ | refine blk_drew ?_ | refine blk_alloc ?_ _)); exact BK173.out) hb); have n1_ := Aside0.mk (below_step (by repeat (first | (with_reducible first | exact HB.out | apply below_alloc | apply pw_below_drewN | apply below_drew1 | refine below_set ?_ GE173.out) | exact HB.out)) hb); clear BK173; clear HB; have BK173 := n0_; have HB := n1_; clear n0_ n1_; (try clear hb); (try clear hb2); (try clear hk); (try clear hi)))
   repeat (go_quiet (first | ((with_reducible refine gate_dst (N := 2) rfl ?_); refine box_event ?hg (N := 2) ?hd (cs := #[.int .i64 a0_0, .int .i64 a0_1, .int .i64 a0_2, .int .i64 a0_3]) (t := 23) ?hr ?_; (case hd => rfl); (case hg => rfl); (case hr => first | (go_simp; done) | (go_simp; rfl)); intro gb173 hg w120 hbox hb; have n0_ := Aside0.mk (below_step (by repeat (first | (with_reducible first | exact HB.out | apply below_alloc | apply pw_below_drewN | apply below_drew1) | exact HB.out)) hb); have n1_ := Aside0.mk (hbox); have n2_ := Aside0.mk ((by rw [hg]; exact (below_size (by repeat (first | (with_reducible first | exact HB.out | apply below_alloc | apply pw_below_drewN | apply below_drew1) | exact HB.out))) : w.heap.size ≤ gb173)); have n3_ := Aside0.mk ((by rw [hg]; exact (below_size (by repeat (first | (with_reducible first | exact HB.out | apply below_alloc | apply pw_below_drewN | apply below_drew1) | exact HB.out))) : w.heap.size ≤ gb173)); clear HB; have HB := n0_; have BK173 := n1_; have GW173 := n2_; have GE173 := n3_; clear n0_ n1_ n2_ n3_; clear hb hbox hg) | (go_at_call 7; (with_reducible refine (blackboardlaw17_awake.calls  false _ A3.out).mono ?_); rintro e w121 ⟨rfl, hb⟩; have n0_ := Aside0.mk (blk_below (g := gb173) (o := .cells #[.int .i64 a0_0, .int .i64 a0_1, .int .i64 a0_2, .int .i64 a0_3] 23 (0, 0)) (by (with_reducible repeat (first | refine blk_drewN ?_ _ | refine blk_drew ?_ | refine blk_alloc ?_ _)); exact BK173.out) hb); have n1_ := Aside0.mk (below_step (by repeat (first | (with_reducible first | exact HB.out | apply below_alloc | apply pw_below_drewN | apply below_drew1 | refine below_set ?_ GE173.out) | exact HB.out)) hb); clear BK173; clear HB; have BK173 := n0_; have HB := n1_; clear n0_ n1_; (try clear hb); (try clear hb2); (try clear hk); (try clear hi))); try go_wp2_with (first | ((with_reducible refine gate_dst (N := 2) rfl ?_); refine box_event ?hg (N := 2) ?hd (cs := #[.int .i64 a0_0, .int .i64 a0_1, .int .i64 a0_2, .int .i64 a0_3]) (t := 23) ?hr ?_; (case hd => rfl); (case hg => rfl); (case hr => first | (go_simp; done) | (go_simp; rfl)); intro gb173 hg w120 hbox hb; have n0_ := Aside0.mk (below_step (by repeat (first | (with_reducible first | exact HB.out | apply below_alloc | apply pw_below_drewN | apply below_drew1) | exact HB.out)) hb); have n1_ := Aside0.mk (hbox); have n2_ := Aside0.mk ((by rw [hg]; exact (below_size (by repeat (first | (with_reducible first | exact HB.out | apply below_alloc | apply pw_below_drewN | apply below_drew1) | exact HB.out))) : w.heap.size ≤ gb173)); have n3_ := Aside0.mk ((by rw [hg]; exact (below_size (by repeat (first | (with_reducible first | exact HB.out | apply below_alloc | apply pw_below_drewN | apply below_drew1) | exact HB.out))) : w.heap.size ≤ gb173)); clear HB; have HB := n0_; have BK173 := n1_; have GW173 := n2_; have GE173 := n3_; clear n0_ n1_ n2_ n3_; clear hb hbox hg) | (go_at_call 7; (with_reducible refine (blackboardlaw17_awake.calls  false _ A3.out).mono ?_); rintro e w121 ⟨rfl, hb⟩; have n0_ := Aside0.mk (blk_below (g := gb173) (o := .cells #[.int .i64 a0_0, .int .i64 a0_1, .int .i64 a0_2, .int .i64 a0_3] 23 (0, 0)) (by (with_reducible repeat (first | refine blk_drewN ?_ _ | refine blk_drew ?_ | refine blk_alloc ?_ _)); exact BK173.out) hb); have n1_ := Aside0.mk (below_step (by repeat (first | (with_reducible first | exact HB.out | apply below_alloc | apply pw_below_drewN | apply below_drew1 | refine below_set ?_ GE173.out) | exact HB.out)) hb); clear BK173; clear HB; have BK173 := n0_; have HB := n1_; clear n0_ n1_; (try clear hb); (try clear hb2); (try clear hk); (try clear hi))))
   go_ret
   exact ⟨by first | rfl | (simp [errW_none, errW_some] <;> rfl) | (simp [*, errW_none, errW_some] <;> rfl), by repeat (first | (with_reducible first | exact HB.out | apply below_alloc | apply pw_below_drewN | apply below_drew1 | refine below_set ?_ GE173.out) | exact HB.out)⟩
 
end Go.Proofs.Ytobdkncdjofihaa.M
