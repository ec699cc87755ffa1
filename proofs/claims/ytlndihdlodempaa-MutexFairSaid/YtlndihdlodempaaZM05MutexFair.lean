/- 6 texts of this claim, joined: what each shows stands at its own head. -/
import Derived.Test.YtlndihdlodempaaZM04MutexFair
import Derived.Test.YtlndihdlodempaaZRead
import Derived.ProofKit
import Derived.OpenShut
import Derived.ChangeOld
import Derived.SizedLaws
import Derived.Deep.Slices
/- The mutex's game in rounds: it is often enough (simulated by the kernel). Written by genfair.py. -/
namespace Go.Proofs.Ytlndihdlodempaa.Z
set_option maxRecDepth 1000000
theorem fair_1_0_0 : reachG 1 0 60 0 (beginG 1 0) = true := by decide +kernel
theorem fair_1_0_1 : reachG 1 1 60 0 (beginG 1 0) = true := by decide +kernel
theorem fair_1_0_2 : reachG 1 2 60 0 (beginG 1 0) = true := by decide +kernel
theorem fair_1_2_0 : reachG 1 0 60 0 (beginG 1 2) = true := by decide +kernel
theorem fair_1_2_1 : reachG 1 1 60 0 (beginG 1 2) = true := by decide +kernel
theorem fair_1_2_2 : reachG 1 2 60 0 (beginG 1 2) = true := by decide +kernel
theorem fair_2_0_0 : reachG 2 0 120 0 (beginG 2 0) = true := by decide +kernel
theorem fair_2_0_1 : reachG 2 1 120 0 (beginG 2 0) = true := by decide +kernel
theorem fair_2_0_2 : reachG 2 2 120 0 (beginG 2 0) = true := by decide +kernel
theorem fair_2_0_3 : reachG 2 3 120 0 (beginG 2 0) = true := by decide +kernel
theorem fair_2_0_4 : reachG 2 4 120 0 (beginG 2 0) = true := by decide +kernel
theorem fair_2_0_5 : reachG 2 5 120 0 (beginG 2 0) = true := by decide +kernel
theorem fair_2_2_0 : reachG 2 0 120 0 (beginG 2 2) = true := by decide +kernel
theorem fair_2_2_1 : reachG 2 1 120 0 (beginG 2 2) = true := by decide +kernel
theorem fair_2_2_2 : reachG 2 2 120 0 (beginG 2 2) = true := by decide +kernel
theorem fair_2_2_3 : reachG 2 3 120 0 (beginG 2 2) = true := by decide +kernel
theorem fair_2_2_4 : reachG 2 4 120 0 (beginG 2 2) = true := by decide +kernel
theorem fair_2_2_5 : reachG 2 5 120 0 (beginG 2 2) = true := by decide +kernel
theorem fair_3_0_0 : reachG 3 0 180 0 (beginG 3 0) = true := by decide +kernel
theorem fair_3_0_1 : reachG 3 1 180 0 (beginG 3 0) = true := by decide +kernel
theorem fair_3_0_2 : reachG 3 2 180 0 (beginG 3 0) = true := by decide +kernel
theorem fair_3_0_3 : reachG 3 3 180 0 (beginG 3 0) = true := by decide +kernel
theorem fair_3_0_4 : reachG 3 4 180 0 (beginG 3 0) = true := by decide +kernel
theorem fair_3_0_5 : reachG 3 5 180 0 (beginG 3 0) = true := by decide +kernel
theorem fair_3_0_6 : reachG 3 6 180 0 (beginG 3 0) = true := by decide +kernel
theorem fair_3_0_7 : reachG 3 7 180 0 (beginG 3 0) = true := by decide +kernel
theorem fair_3_0_8 : reachG 3 8 180 0 (beginG 3 0) = true := by decide +kernel
theorem fair_3_2_0 : reachG 3 0 180 0 (beginG 3 2) = true := by decide +kernel
theorem fair_3_2_1 : reachG 3 1 180 0 (beginG 3 2) = true := by decide +kernel
theorem fair_3_2_2 : reachG 3 2 180 0 (beginG 3 2) = true := by decide +kernel
theorem fair_3_2_3 : reachG 3 3 180 0 (beginG 3 2) = true := by decide +kernel
theorem fair_3_2_4 : reachG 3 4 180 0 (beginG 3 2) = true := by decide +kernel
theorem fair_3_2_5 : reachG 3 5 180 0 (beginG 3 2) = true := by decide +kernel
theorem fair_3_2_6 : reachG 3 6 180 0 (beginG 3 2) = true := by decide +kernel
theorem fair_3_2_7 : reachG 3 7 180 0 (beginG 3 2) = true := by decide +kernel
theorem fair_3_2_8 : reachG 3 8 180 0 (beginG 3 2) = true := by decide +kernel
theorem fair_4_0_0 : reachG 4 0 240 0 (beginG 4 0) = true := by decide +kernel
theorem fair_4_0_1 : reachG 4 1 240 0 (beginG 4 0) = true := by decide +kernel
theorem fair_4_0_2 : reachG 4 2 240 0 (beginG 4 0) = true := by decide +kernel
theorem fair_4_0_3 : reachG 4 3 240 0 (beginG 4 0) = true := by decide +kernel
theorem fair_4_0_4 : reachG 4 4 240 0 (beginG 4 0) = true := by decide +kernel
theorem fair_4_0_5 : reachG 4 5 240 0 (beginG 4 0) = true := by decide +kernel
theorem fair_4_0_6 : reachG 4 6 240 0 (beginG 4 0) = true := by decide +kernel
theorem fair_4_0_7 : reachG 4 7 240 0 (beginG 4 0) = true := by decide +kernel
theorem fair_4_0_8 : reachG 4 8 240 0 (beginG 4 0) = true := by decide +kernel
theorem fair_4_0_9 : reachG 4 9 240 0 (beginG 4 0) = true := by decide +kernel
theorem fair_4_0_10 : reachG 4 10 240 0 (beginG 4 0) = true := by decide +kernel
theorem fair_4_0_11 : reachG 4 11 240 0 (beginG 4 0) = true := by decide +kernel
theorem fair_4_2_0 : reachG 4 0 240 0 (beginG 4 2) = true := by decide +kernel
theorem fair_4_2_1 : reachG 4 1 240 0 (beginG 4 2) = true := by decide +kernel
theorem fair_4_2_2 : reachG 4 2 240 0 (beginG 4 2) = true := by decide +kernel
theorem fair_4_2_3 : reachG 4 3 240 0 (beginG 4 2) = true := by decide +kernel
theorem fair_4_2_4 : reachG 4 4 240 0 (beginG 4 2) = true := by decide +kernel
theorem fair_4_2_5 : reachG 4 5 240 0 (beginG 4 2) = true := by decide +kernel
theorem fair_4_2_6 : reachG 4 6 240 0 (beginG 4 2) = true := by decide +kernel
theorem fair_4_2_7 : reachG 4 7 240 0 (beginG 4 2) = true := by decide +kernel
theorem fair_4_2_8 : reachG 4 8 240 0 (beginG 4 2) = true := by decide +kernel
theorem fair_4_2_9 : reachG 4 9 240 0 (beginG 4 2) = true := by decide +kernel
theorem fair_4_2_10 : reachG 4 10 240 0 (beginG 4 2) = true := by decide +kernel
theorem fair_4_2_11 : reachG 4 11 240 0 (beginG 4 2) = true := by decide +kernel
theorem fair_5_0_0 : reachG 5 0 300 0 (beginG 5 0) = true := by decide +kernel
theorem fair_5_0_1 : reachG 5 1 300 0 (beginG 5 0) = true := by decide +kernel
theorem fair_5_0_2 : reachG 5 2 300 0 (beginG 5 0) = true := by decide +kernel
theorem fair_5_0_3 : reachG 5 3 300 0 (beginG 5 0) = true := by decide +kernel
theorem fair_5_0_4 : reachG 5 4 300 0 (beginG 5 0) = true := by decide +kernel
theorem fair_5_0_5 : reachG 5 5 300 0 (beginG 5 0) = true := by decide +kernel
theorem fair_5_0_6 : reachG 5 6 300 0 (beginG 5 0) = true := by decide +kernel
theorem fair_5_0_7 : reachG 5 7 300 0 (beginG 5 0) = true := by decide +kernel
theorem fair_5_0_8 : reachG 5 8 300 0 (beginG 5 0) = true := by decide +kernel
theorem fair_5_0_9 : reachG 5 9 300 0 (beginG 5 0) = true := by decide +kernel
theorem fair_5_0_10 : reachG 5 10 300 0 (beginG 5 0) = true := by decide +kernel
theorem fair_5_0_11 : reachG 5 11 300 0 (beginG 5 0) = true := by decide +kernel
theorem fair_5_0_12 : reachG 5 12 300 0 (beginG 5 0) = true := by decide +kernel
theorem fair_5_0_13 : reachG 5 13 300 0 (beginG 5 0) = true := by decide +kernel
theorem fair_5_0_14 : reachG 5 14 300 0 (beginG 5 0) = true := by decide +kernel
theorem fair_5_2_0 : reachG 5 0 300 0 (beginG 5 2) = true := by decide +kernel
theorem fair_5_2_1 : reachG 5 1 300 0 (beginG 5 2) = true := by decide +kernel
theorem fair_5_2_2 : reachG 5 2 300 0 (beginG 5 2) = true := by decide +kernel
theorem fair_5_2_3 : reachG 5 3 300 0 (beginG 5 2) = true := by decide +kernel
theorem fair_5_2_4 : reachG 5 4 300 0 (beginG 5 2) = true := by decide +kernel
theorem fair_5_2_5 : reachG 5 5 300 0 (beginG 5 2) = true := by decide +kernel
theorem fair_5_2_6 : reachG 5 6 300 0 (beginG 5 2) = true := by decide +kernel
theorem fair_5_2_7 : reachG 5 7 300 0 (beginG 5 2) = true := by decide +kernel
theorem fair_5_2_8 : reachG 5 8 300 0 (beginG 5 2) = true := by decide +kernel
theorem fair_5_2_9 : reachG 5 9 300 0 (beginG 5 2) = true := by decide +kernel
theorem fair_5_2_10 : reachG 5 10 300 0 (beginG 5 2) = true := by decide +kernel
theorem fair_5_2_11 : reachG 5 11 300 0 (beginG 5 2) = true := by decide +kernel
theorem fair_5_2_12 : reachG 5 12 300 0 (beginG 5 2) = true := by decide +kernel
theorem fair_5_2_13 : reachG 5 13 300 0 (beginG 5 2) = true := by decide +kernel
theorem fair_5_2_14 : reachG 5 14 300 0 (beginG 5 2) = true := by decide +kernel
end Go.Proofs.Ytlndihdlodempaa.Z

/- The mutex's game in rounds: it is often enough (simulated by the kernel). Written by genfair.py. -/
namespace Go.Proofs.Ytlndihdlodempaa.Z
set_option maxRecDepth 1000000
theorem fair_6_0_0 : reachG 6 0 360 0 (beginG 6 0) = true := by decide +kernel
theorem fair_6_0_1 : reachG 6 1 360 0 (beginG 6 0) = true := by decide +kernel
theorem fair_6_0_2 : reachG 6 2 360 0 (beginG 6 0) = true := by decide +kernel
theorem fair_6_0_3 : reachG 6 3 360 0 (beginG 6 0) = true := by decide +kernel
theorem fair_6_0_4 : reachG 6 4 360 0 (beginG 6 0) = true := by decide +kernel
theorem fair_6_0_5 : reachG 6 5 360 0 (beginG 6 0) = true := by decide +kernel
theorem fair_6_0_6 : reachG 6 6 360 0 (beginG 6 0) = true := by decide +kernel
theorem fair_6_0_7 : reachG 6 7 360 0 (beginG 6 0) = true := by decide +kernel
theorem fair_6_0_8 : reachG 6 8 360 0 (beginG 6 0) = true := by decide +kernel
theorem fair_6_0_9 : reachG 6 9 360 0 (beginG 6 0) = true := by decide +kernel
theorem fair_6_0_10 : reachG 6 10 360 0 (beginG 6 0) = true := by decide +kernel
theorem fair_6_0_11 : reachG 6 11 360 0 (beginG 6 0) = true := by decide +kernel
theorem fair_6_0_12 : reachG 6 12 360 0 (beginG 6 0) = true := by decide +kernel
theorem fair_6_0_13 : reachG 6 13 360 0 (beginG 6 0) = true := by decide +kernel
theorem fair_6_0_14 : reachG 6 14 360 0 (beginG 6 0) = true := by decide +kernel
theorem fair_6_0_15 : reachG 6 15 360 0 (beginG 6 0) = true := by decide +kernel
theorem fair_6_0_16 : reachG 6 16 360 0 (beginG 6 0) = true := by decide +kernel
theorem fair_6_0_17 : reachG 6 17 360 0 (beginG 6 0) = true := by decide +kernel
theorem fair_6_2_0 : reachG 6 0 360 0 (beginG 6 2) = true := by decide +kernel
theorem fair_6_2_1 : reachG 6 1 360 0 (beginG 6 2) = true := by decide +kernel
theorem fair_6_2_2 : reachG 6 2 360 0 (beginG 6 2) = true := by decide +kernel
theorem fair_6_2_3 : reachG 6 3 360 0 (beginG 6 2) = true := by decide +kernel
theorem fair_6_2_4 : reachG 6 4 360 0 (beginG 6 2) = true := by decide +kernel
theorem fair_6_2_5 : reachG 6 5 360 0 (beginG 6 2) = true := by decide +kernel
theorem fair_6_2_6 : reachG 6 6 360 0 (beginG 6 2) = true := by decide +kernel
theorem fair_6_2_7 : reachG 6 7 360 0 (beginG 6 2) = true := by decide +kernel
theorem fair_6_2_8 : reachG 6 8 360 0 (beginG 6 2) = true := by decide +kernel
theorem fair_6_2_9 : reachG 6 9 360 0 (beginG 6 2) = true := by decide +kernel
theorem fair_6_2_10 : reachG 6 10 360 0 (beginG 6 2) = true := by decide +kernel
theorem fair_6_2_11 : reachG 6 11 360 0 (beginG 6 2) = true := by decide +kernel
theorem fair_6_2_12 : reachG 6 12 360 0 (beginG 6 2) = true := by decide +kernel
theorem fair_6_2_13 : reachG 6 13 360 0 (beginG 6 2) = true := by decide +kernel
theorem fair_6_2_14 : reachG 6 14 360 0 (beginG 6 2) = true := by decide +kernel
theorem fair_6_2_15 : reachG 6 15 360 0 (beginG 6 2) = true := by decide +kernel
theorem fair_6_2_16 : reachG 6 16 360 0 (beginG 6 2) = true := by decide +kernel
theorem fair_6_2_17 : reachG 6 17 360 0 (beginG 6 2) = true := by decide +kernel
theorem fair_7_0_0 : reachG 7 0 420 0 (beginG 7 0) = true := by decide +kernel
theorem fair_7_0_1 : reachG 7 1 420 0 (beginG 7 0) = true := by decide +kernel
theorem fair_7_0_2 : reachG 7 2 420 0 (beginG 7 0) = true := by decide +kernel
theorem fair_7_0_3 : reachG 7 3 420 0 (beginG 7 0) = true := by decide +kernel
theorem fair_7_0_4 : reachG 7 4 420 0 (beginG 7 0) = true := by decide +kernel
theorem fair_7_0_5 : reachG 7 5 420 0 (beginG 7 0) = true := by decide +kernel
theorem fair_7_0_6 : reachG 7 6 420 0 (beginG 7 0) = true := by decide +kernel
theorem fair_7_0_7 : reachG 7 7 420 0 (beginG 7 0) = true := by decide +kernel
theorem fair_7_0_8 : reachG 7 8 420 0 (beginG 7 0) = true := by decide +kernel
theorem fair_7_0_9 : reachG 7 9 420 0 (beginG 7 0) = true := by decide +kernel
theorem fair_7_0_10 : reachG 7 10 420 0 (beginG 7 0) = true := by decide +kernel
theorem fair_7_0_11 : reachG 7 11 420 0 (beginG 7 0) = true := by decide +kernel
theorem fair_7_0_12 : reachG 7 12 420 0 (beginG 7 0) = true := by decide +kernel
theorem fair_7_0_13 : reachG 7 13 420 0 (beginG 7 0) = true := by decide +kernel
theorem fair_7_0_14 : reachG 7 14 420 0 (beginG 7 0) = true := by decide +kernel
theorem fair_7_0_15 : reachG 7 15 420 0 (beginG 7 0) = true := by decide +kernel
theorem fair_7_0_16 : reachG 7 16 420 0 (beginG 7 0) = true := by decide +kernel
theorem fair_7_0_17 : reachG 7 17 420 0 (beginG 7 0) = true := by decide +kernel
theorem fair_7_0_18 : reachG 7 18 420 0 (beginG 7 0) = true := by decide +kernel
theorem fair_7_0_19 : reachG 7 19 420 0 (beginG 7 0) = true := by decide +kernel
theorem fair_7_0_20 : reachG 7 20 420 0 (beginG 7 0) = true := by decide +kernel
theorem fair_8_0_0 : reachG 8 0 480 0 (beginG 8 0) = true := by decide +kernel
theorem fair_8_0_1 : reachG 8 1 480 0 (beginG 8 0) = true := by decide +kernel
theorem fair_8_0_2 : reachG 8 2 480 0 (beginG 8 0) = true := by decide +kernel
theorem fair_8_0_3 : reachG 8 3 480 0 (beginG 8 0) = true := by decide +kernel
theorem fair_8_0_4 : reachG 8 4 480 0 (beginG 8 0) = true := by decide +kernel
theorem fair_8_0_5 : reachG 8 5 480 0 (beginG 8 0) = true := by decide +kernel
theorem fair_8_0_6 : reachG 8 6 480 0 (beginG 8 0) = true := by decide +kernel
theorem fair_8_0_7 : reachG 8 7 480 0 (beginG 8 0) = true := by decide +kernel
theorem fair_8_0_8 : reachG 8 8 480 0 (beginG 8 0) = true := by decide +kernel
theorem fair_8_0_9 : reachG 8 9 480 0 (beginG 8 0) = true := by decide +kernel
theorem fair_8_0_10 : reachG 8 10 480 0 (beginG 8 0) = true := by decide +kernel
theorem fair_8_0_11 : reachG 8 11 480 0 (beginG 8 0) = true := by decide +kernel
theorem fair_8_0_12 : reachG 8 12 480 0 (beginG 8 0) = true := by decide +kernel
theorem fair_8_0_13 : reachG 8 13 480 0 (beginG 8 0) = true := by decide +kernel
theorem fair_8_0_14 : reachG 8 14 480 0 (beginG 8 0) = true := by decide +kernel
theorem fair_8_0_15 : reachG 8 15 480 0 (beginG 8 0) = true := by decide +kernel
theorem fair_8_0_16 : reachG 8 16 480 0 (beginG 8 0) = true := by decide +kernel
theorem fair_8_0_17 : reachG 8 17 480 0 (beginG 8 0) = true := by decide +kernel
theorem fair_8_0_18 : reachG 8 18 480 0 (beginG 8 0) = true := by decide +kernel
theorem fair_8_0_19 : reachG 8 19 480 0 (beginG 8 0) = true := by decide +kernel
theorem fair_8_0_20 : reachG 8 20 480 0 (beginG 8 0) = true := by decide +kernel
theorem fair_8_0_21 : reachG 8 21 480 0 (beginG 8 0) = true := by decide +kernel
theorem fair_8_0_22 : reachG 8 22 480 0 (beginG 8 0) = true := by decide +kernel
theorem fair_8_0_23 : reachG 8 23 480 0 (beginG 8 0) = true := by decide +kernel
end Go.Proofs.Ytlndihdlodempaa.Z

/- The mutex's game in rounds: it is often enough (simulated by the kernel). Written by genfair.py. -/
namespace Go.Proofs.Ytlndihdlodempaa.Z
set_option maxRecDepth 1000000
theorem fair_7_2_0 : reachG 7 0 420 0 (beginG 7 2) = true := by decide +kernel
theorem fair_7_2_1 : reachG 7 1 420 0 (beginG 7 2) = true := by decide +kernel
theorem fair_7_2_2 : reachG 7 2 420 0 (beginG 7 2) = true := by decide +kernel
theorem fair_7_2_3 : reachG 7 3 420 0 (beginG 7 2) = true := by decide +kernel
theorem fair_7_2_4 : reachG 7 4 420 0 (beginG 7 2) = true := by decide +kernel
theorem fair_7_2_5 : reachG 7 5 420 0 (beginG 7 2) = true := by decide +kernel
theorem fair_7_2_6 : reachG 7 6 420 0 (beginG 7 2) = true := by decide +kernel
theorem fair_7_2_7 : reachG 7 7 420 0 (beginG 7 2) = true := by decide +kernel
theorem fair_7_2_8 : reachG 7 8 420 0 (beginG 7 2) = true := by decide +kernel
theorem fair_7_2_9 : reachG 7 9 420 0 (beginG 7 2) = true := by decide +kernel
theorem fair_7_2_10 : reachG 7 10 420 0 (beginG 7 2) = true := by decide +kernel
theorem fair_7_2_11 : reachG 7 11 420 0 (beginG 7 2) = true := by decide +kernel
theorem fair_7_2_12 : reachG 7 12 420 0 (beginG 7 2) = true := by decide +kernel
theorem fair_7_2_13 : reachG 7 13 420 0 (beginG 7 2) = true := by decide +kernel
theorem fair_7_2_14 : reachG 7 14 420 0 (beginG 7 2) = true := by decide +kernel
theorem fair_7_2_15 : reachG 7 15 420 0 (beginG 7 2) = true := by decide +kernel
theorem fair_7_2_16 : reachG 7 16 420 0 (beginG 7 2) = true := by decide +kernel
theorem fair_7_2_17 : reachG 7 17 420 0 (beginG 7 2) = true := by decide +kernel
theorem fair_7_2_18 : reachG 7 18 420 0 (beginG 7 2) = true := by decide +kernel
theorem fair_7_2_19 : reachG 7 19 420 0 (beginG 7 2) = true := by decide +kernel
theorem fair_7_2_20 : reachG 7 20 420 0 (beginG 7 2) = true := by decide +kernel
end Go.Proofs.Ytlndihdlodempaa.Z

/- The mutex's game in rounds: it is often enough (simulated by the kernel). Written by genfair.py. -/
namespace Go.Proofs.Ytlndihdlodempaa.Z
set_option maxRecDepth 1000000
theorem fair_8_2_0 : reachG 8 0 480 0 (beginG 8 2) = true := by decide +kernel
theorem fair_8_2_1 : reachG 8 1 480 0 (beginG 8 2) = true := by decide +kernel
theorem fair_8_2_2 : reachG 8 2 480 0 (beginG 8 2) = true := by decide +kernel
theorem fair_8_2_3 : reachG 8 3 480 0 (beginG 8 2) = true := by decide +kernel
theorem fair_8_2_4 : reachG 8 4 480 0 (beginG 8 2) = true := by decide +kernel
theorem fair_8_2_5 : reachG 8 5 480 0 (beginG 8 2) = true := by decide +kernel
theorem fair_8_2_6 : reachG 8 6 480 0 (beginG 8 2) = true := by decide +kernel
theorem fair_8_2_7 : reachG 8 7 480 0 (beginG 8 2) = true := by decide +kernel
theorem fair_8_2_8 : reachG 8 8 480 0 (beginG 8 2) = true := by decide +kernel
theorem fair_8_2_9 : reachG 8 9 480 0 (beginG 8 2) = true := by decide +kernel
theorem fair_8_2_10 : reachG 8 10 480 0 (beginG 8 2) = true := by decide +kernel
theorem fair_8_2_11 : reachG 8 11 480 0 (beginG 8 2) = true := by decide +kernel
theorem fair_8_2_12 : reachG 8 12 480 0 (beginG 8 2) = true := by decide +kernel
theorem fair_8_2_13 : reachG 8 13 480 0 (beginG 8 2) = true := by decide +kernel
theorem fair_8_2_14 : reachG 8 14 480 0 (beginG 8 2) = true := by decide +kernel
theorem fair_8_2_15 : reachG 8 15 480 0 (beginG 8 2) = true := by decide +kernel
theorem fair_8_2_16 : reachG 8 16 480 0 (beginG 8 2) = true := by decide +kernel
theorem fair_8_2_17 : reachG 8 17 480 0 (beginG 8 2) = true := by decide +kernel
theorem fair_8_2_18 : reachG 8 18 480 0 (beginG 8 2) = true := by decide +kernel
theorem fair_8_2_19 : reachG 8 19 480 0 (beginG 8 2) = true := by decide +kernel
theorem fair_8_2_20 : reachG 8 20 480 0 (beginG 8 2) = true := by decide +kernel
theorem fair_8_2_21 : reachG 8 21 480 0 (beginG 8 2) = true := by decide +kernel
theorem fair_8_2_22 : reachG 8 22 480 0 (beginG 8 2) = true := by decide +kernel
theorem fair_8_2_23 : reachG 8 23 480 0 (beginG 8 2) = true := by decide +kernel
end Go.Proofs.Ytlndihdlodempaa.Z

/- Law 12: the statement MutexFair, whatever the input. Written by genfair.py. -/
namespace Go.Proofs.Ytlndihdlodempaa.Z
open Go.RowKit
theorem fairs_1_0 : ∀ r, r < 3 * 1 → reachG 1 r (60 * 1) 0 (beginG 1 0) = true
  | 0, _ => fair_1_0_0
  | 1, _ => fair_1_0_1
  | 2, _ => fair_1_0_2
  | n + 3, h => absurd h (by omega)
theorem fairs_1_2 : ∀ r, r < 3 * 1 → reachG 1 r (60 * 1) 0 (beginG 1 2) = true
  | 0, _ => fair_1_2_0
  | 1, _ => fair_1_2_1
  | 2, _ => fair_1_2_2
  | n + 3, h => absurd h (by omega)
theorem fairs_2_0 : ∀ r, r < 3 * 2 → reachG 2 r (60 * 2) 0 (beginG 2 0) = true
  | 0, _ => fair_2_0_0
  | 1, _ => fair_2_0_1
  | 2, _ => fair_2_0_2
  | 3, _ => fair_2_0_3
  | 4, _ => fair_2_0_4
  | 5, _ => fair_2_0_5
  | n + 6, h => absurd h (by omega)
theorem fairs_2_2 : ∀ r, r < 3 * 2 → reachG 2 r (60 * 2) 0 (beginG 2 2) = true
  | 0, _ => fair_2_2_0
  | 1, _ => fair_2_2_1
  | 2, _ => fair_2_2_2
  | 3, _ => fair_2_2_3
  | 4, _ => fair_2_2_4
  | 5, _ => fair_2_2_5
  | n + 6, h => absurd h (by omega)
theorem fairs_3_0 : ∀ r, r < 3 * 3 → reachG 3 r (60 * 3) 0 (beginG 3 0) = true
  | 0, _ => fair_3_0_0
  | 1, _ => fair_3_0_1
  | 2, _ => fair_3_0_2
  | 3, _ => fair_3_0_3
  | 4, _ => fair_3_0_4
  | 5, _ => fair_3_0_5
  | 6, _ => fair_3_0_6
  | 7, _ => fair_3_0_7
  | 8, _ => fair_3_0_8
  | n + 9, h => absurd h (by omega)
theorem fairs_3_2 : ∀ r, r < 3 * 3 → reachG 3 r (60 * 3) 0 (beginG 3 2) = true
  | 0, _ => fair_3_2_0
  | 1, _ => fair_3_2_1
  | 2, _ => fair_3_2_2
  | 3, _ => fair_3_2_3
  | 4, _ => fair_3_2_4
  | 5, _ => fair_3_2_5
  | 6, _ => fair_3_2_6
  | 7, _ => fair_3_2_7
  | 8, _ => fair_3_2_8
  | n + 9, h => absurd h (by omega)
theorem fairs_4_0 : ∀ r, r < 3 * 4 → reachG 4 r (60 * 4) 0 (beginG 4 0) = true
  | 0, _ => fair_4_0_0
  | 1, _ => fair_4_0_1
  | 2, _ => fair_4_0_2
  | 3, _ => fair_4_0_3
  | 4, _ => fair_4_0_4
  | 5, _ => fair_4_0_5
  | 6, _ => fair_4_0_6
  | 7, _ => fair_4_0_7
  | 8, _ => fair_4_0_8
  | 9, _ => fair_4_0_9
  | 10, _ => fair_4_0_10
  | 11, _ => fair_4_0_11
  | n + 12, h => absurd h (by omega)
theorem fairs_4_2 : ∀ r, r < 3 * 4 → reachG 4 r (60 * 4) 0 (beginG 4 2) = true
  | 0, _ => fair_4_2_0
  | 1, _ => fair_4_2_1
  | 2, _ => fair_4_2_2
  | 3, _ => fair_4_2_3
  | 4, _ => fair_4_2_4
  | 5, _ => fair_4_2_5
  | 6, _ => fair_4_2_6
  | 7, _ => fair_4_2_7
  | 8, _ => fair_4_2_8
  | 9, _ => fair_4_2_9
  | 10, _ => fair_4_2_10
  | 11, _ => fair_4_2_11
  | n + 12, h => absurd h (by omega)
theorem fairs_5_0 : ∀ r, r < 3 * 5 → reachG 5 r (60 * 5) 0 (beginG 5 0) = true
  | 0, _ => fair_5_0_0
  | 1, _ => fair_5_0_1
  | 2, _ => fair_5_0_2
  | 3, _ => fair_5_0_3
  | 4, _ => fair_5_0_4
  | 5, _ => fair_5_0_5
  | 6, _ => fair_5_0_6
  | 7, _ => fair_5_0_7
  | 8, _ => fair_5_0_8
  | 9, _ => fair_5_0_9
  | 10, _ => fair_5_0_10
  | 11, _ => fair_5_0_11
  | 12, _ => fair_5_0_12
  | 13, _ => fair_5_0_13
  | 14, _ => fair_5_0_14
  | n + 15, h => absurd h (by omega)
theorem fairs_5_2 : ∀ r, r < 3 * 5 → reachG 5 r (60 * 5) 0 (beginG 5 2) = true
  | 0, _ => fair_5_2_0
  | 1, _ => fair_5_2_1
  | 2, _ => fair_5_2_2
  | 3, _ => fair_5_2_3
  | 4, _ => fair_5_2_4
  | 5, _ => fair_5_2_5
  | 6, _ => fair_5_2_6
  | 7, _ => fair_5_2_7
  | 8, _ => fair_5_2_8
  | 9, _ => fair_5_2_9
  | 10, _ => fair_5_2_10
  | 11, _ => fair_5_2_11
  | 12, _ => fair_5_2_12
  | 13, _ => fair_5_2_13
  | 14, _ => fair_5_2_14
  | n + 15, h => absurd h (by omega)
theorem fairs_6_0 : ∀ r, r < 3 * 6 → reachG 6 r (60 * 6) 0 (beginG 6 0) = true
  | 0, _ => fair_6_0_0
  | 1, _ => fair_6_0_1
  | 2, _ => fair_6_0_2
  | 3, _ => fair_6_0_3
  | 4, _ => fair_6_0_4
  | 5, _ => fair_6_0_5
  | 6, _ => fair_6_0_6
  | 7, _ => fair_6_0_7
  | 8, _ => fair_6_0_8
  | 9, _ => fair_6_0_9
  | 10, _ => fair_6_0_10
  | 11, _ => fair_6_0_11
  | 12, _ => fair_6_0_12
  | 13, _ => fair_6_0_13
  | 14, _ => fair_6_0_14
  | 15, _ => fair_6_0_15
  | 16, _ => fair_6_0_16
  | 17, _ => fair_6_0_17
  | n + 18, h => absurd h (by omega)
theorem fairs_6_2 : ∀ r, r < 3 * 6 → reachG 6 r (60 * 6) 0 (beginG 6 2) = true
  | 0, _ => fair_6_2_0
  | 1, _ => fair_6_2_1
  | 2, _ => fair_6_2_2
  | 3, _ => fair_6_2_3
  | 4, _ => fair_6_2_4
  | 5, _ => fair_6_2_5
  | 6, _ => fair_6_2_6
  | 7, _ => fair_6_2_7
  | 8, _ => fair_6_2_8
  | 9, _ => fair_6_2_9
  | 10, _ => fair_6_2_10
  | 11, _ => fair_6_2_11
  | 12, _ => fair_6_2_12
  | 13, _ => fair_6_2_13
  | 14, _ => fair_6_2_14
  | 15, _ => fair_6_2_15
  | 16, _ => fair_6_2_16
  | 17, _ => fair_6_2_17
  | n + 18, h => absurd h (by omega)
theorem fairs_7_0 : ∀ r, r < 3 * 7 → reachG 7 r (60 * 7) 0 (beginG 7 0) = true
  | 0, _ => fair_7_0_0
  | 1, _ => fair_7_0_1
  | 2, _ => fair_7_0_2
  | 3, _ => fair_7_0_3
  | 4, _ => fair_7_0_4
  | 5, _ => fair_7_0_5
  | 6, _ => fair_7_0_6
  | 7, _ => fair_7_0_7
  | 8, _ => fair_7_0_8
  | 9, _ => fair_7_0_9
  | 10, _ => fair_7_0_10
  | 11, _ => fair_7_0_11
  | 12, _ => fair_7_0_12
  | 13, _ => fair_7_0_13
  | 14, _ => fair_7_0_14
  | 15, _ => fair_7_0_15
  | 16, _ => fair_7_0_16
  | 17, _ => fair_7_0_17
  | 18, _ => fair_7_0_18
  | 19, _ => fair_7_0_19
  | 20, _ => fair_7_0_20
  | n + 21, h => absurd h (by omega)
theorem fairs_7_2 : ∀ r, r < 3 * 7 → reachG 7 r (60 * 7) 0 (beginG 7 2) = true
  | 0, _ => fair_7_2_0
  | 1, _ => fair_7_2_1
  | 2, _ => fair_7_2_2
  | 3, _ => fair_7_2_3
  | 4, _ => fair_7_2_4
  | 5, _ => fair_7_2_5
  | 6, _ => fair_7_2_6
  | 7, _ => fair_7_2_7
  | 8, _ => fair_7_2_8
  | 9, _ => fair_7_2_9
  | 10, _ => fair_7_2_10
  | 11, _ => fair_7_2_11
  | 12, _ => fair_7_2_12
  | 13, _ => fair_7_2_13
  | 14, _ => fair_7_2_14
  | 15, _ => fair_7_2_15
  | 16, _ => fair_7_2_16
  | 17, _ => fair_7_2_17
  | 18, _ => fair_7_2_18
  | 19, _ => fair_7_2_19
  | 20, _ => fair_7_2_20
  | n + 21, h => absurd h (by omega)
theorem fairs_8_0 : ∀ r, r < 3 * 8 → reachG 8 r (60 * 8) 0 (beginG 8 0) = true
  | 0, _ => fair_8_0_0
  | 1, _ => fair_8_0_1
  | 2, _ => fair_8_0_2
  | 3, _ => fair_8_0_3
  | 4, _ => fair_8_0_4
  | 5, _ => fair_8_0_5
  | 6, _ => fair_8_0_6
  | 7, _ => fair_8_0_7
  | 8, _ => fair_8_0_8
  | 9, _ => fair_8_0_9
  | 10, _ => fair_8_0_10
  | 11, _ => fair_8_0_11
  | 12, _ => fair_8_0_12
  | 13, _ => fair_8_0_13
  | 14, _ => fair_8_0_14
  | 15, _ => fair_8_0_15
  | 16, _ => fair_8_0_16
  | 17, _ => fair_8_0_17
  | 18, _ => fair_8_0_18
  | 19, _ => fair_8_0_19
  | 20, _ => fair_8_0_20
  | 21, _ => fair_8_0_21
  | 22, _ => fair_8_0_22
  | 23, _ => fair_8_0_23
  | n + 24, h => absurd h (by omega)
theorem fairs_8_2 : ∀ r, r < 3 * 8 → reachG 8 r (60 * 8) 0 (beginG 8 2) = true
  | 0, _ => fair_8_2_0
  | 1, _ => fair_8_2_1
  | 2, _ => fair_8_2_2
  | 3, _ => fair_8_2_3
  | 4, _ => fair_8_2_4
  | 5, _ => fair_8_2_5
  | 6, _ => fair_8_2_6
  | 7, _ => fair_8_2_7
  | 8, _ => fair_8_2_8
  | 9, _ => fair_8_2_9
  | 10, _ => fair_8_2_10
  | 11, _ => fair_8_2_11
  | 12, _ => fair_8_2_12
  | 13, _ => fair_8_2_13
  | 14, _ => fair_8_2_14
  | 15, _ => fair_8_2_15
  | 16, _ => fair_8_2_16
  | 17, _ => fair_8_2_17
  | 18, _ => fair_8_2_18
  | 19, _ => fair_8_2_19
  | 20, _ => fair_8_2_20
  | 21, _ => fair_8_2_21
  | 22, _ => fair_8_2_22
  | 23, _ => fair_8_2_23
  | n + 24, h => absurd h (by omega)
theorem fair_pure (k t : Nat) (mode : Int) (h1 : 1 ≤ k) (h8 : k ≤ 8) : enoughG ((fairN k t (60 * k)).foldl (stepG k) (beginG k mode)) = true := by
  rcases (show k = 1 ∨ k = 2 ∨ k = 3 ∨ k = 4 ∨ k = 5 ∨ k = 6 ∨ k = 7 ∨ k = 8 by omega) with rfl | rfl | rfl | rfl | rfl | rfl | rfl | rfl
  · exact fair_all fairs_1_0 fairs_1_2 h1 t mode
  · exact fair_all fairs_2_0 fairs_2_2 h1 t mode
  · exact fair_all fairs_3_0 fairs_3_2 h1 t mode
  · exact fair_all fairs_4_0 fairs_4_2 h1 t mode
  · exact fair_all fairs_5_0 fairs_5_2 h1 t mode
  · exact fair_all fairs_6_0 fairs_6_2 h1 t mode
  · exact fair_all fairs_7_0 fairs_7_2 h1 t mode
  · exact fair_all fairs_8_0 fairs_8_2 h1 t mode
/-- WHATEVER THE INPUT. -/
theorem mutexFair_any (w : World) (n mode turn : Int) (hn : 0 ≤ n ∧ n < 256) (ht : 0 ≤ turn ∧ turn < 256) :
    Calls Try.prog 6 #[.int .u8 n, .int .i64 mode, .int .u8 turn] w fun e w' => e = .returned (.bool true) ∧ Touch [] w w' := by
  obtain ⟨k, hk⟩ : ∃ k : Nat, 1 + n % 8 = (k : Int) := ⟨(1 + n % 8).toNat, by omega⟩
  obtain ⟨t, rfl⟩ : ∃ t : Nat, turn = (t : Int) := ⟨turn.toNat, by omega⟩
  exact mutexFair_walk w n mode t k hk hn (by omega) (fair_pure k t mode (by omega) (by omega))
end Go.Proofs.Ytlndihdlodempaa.Z

/- Arguments opened: whole numbers, structs of whole numbers, slices of these. No statement is in sight. -/
set_option linter.unusedVariables false
set_option linter.unusedSimpArgs false
namespace Go.Proofs.Ytlndihdlodempaa.Z
open Go.RowKit Go.ChangeShapes Go.WideShapes Go.ChangeAt Go.Deep

/-- Whatever reads as a value of type t has cells of this form. -/
def Flat (P : Program) (t : TypeId) (ok : List Value → Prop) : Prop :=
  ∀ (H : Type) (enc : TypeId × Value → H) (w : World) (base : Nat) (spare : Nat → Bool) (held : Bool) (fuel : Nat) (cs : List Value) (x : DataW H × List MemPlace),
    DataW.trod enc P w base spare held fuel t cs = some x → ok cs

theorem flat_int {P : Program} {t : TypeId} {k : IntKind} (ht : P.underlying t = some (.int k)) : Flat P t (fun cs => ∃ n, cs = [.int k n] ∧ (Lit.int k n).wf = true) := by
  intro H enc w base spare held fuel cs x h
  obtain ⟨n, h1, _, h2⟩ := DataW.trod_int ht h
  exact ⟨n, h1, h2⟩

theorem flat_bool {P : Program} {t : TypeId} (ht : P.underlying t = some .bool) : Flat P t (fun cs => ∃ b, cs = [.bool b]) := by
  intro H enc w base spare held fuel cs x h
  obtain ⟨n, h1, _⟩ := DataW.trod_bool ht h
  exact ⟨n, h1⟩

theorem flat_mono {P : Program} {t : TypeId} {ok ok' : List Value → Prop} (h : Flat P t ok) (hm : ∀ cs, ok cs → ok' cs) : Flat P t ok' :=
  fun H enc w base spare held fuel cs x hx => hm _ (h H enc w base spare held fuel cs x hx)

/-- A struct: each field's cells are of that field's form. -/
theorem flat_struct {P : Program} {t : TypeId} {fs : Array Field} (ht : P.underlying t = some (.struct fs)) :
    Flat P t (fun cs => cs.length = P.cellsOf t ∧ ∀ (i : Nat) (f : Field) (ok : List Value → Prop), fs[i]? = some f → Flat P f.type ok → ok ((cs.drop f.offset).take (P.cellsOf f.type))) := by
  intro H enc w base spare held fuel cs x h
  obtain ⟨xs, n, _, _, hl, hxl, hf⟩ := DataW.trod_struct ht h
  refine ⟨hl, fun i f ok hi hok => ?_⟩
  have hil : i < fs.size := (Array.getElem?_eq_some_iff.1 hi).1
  have := hf i f hi
  rw [List.getElem?_eq_getElem (by omega)] at this
  exact hok H enc w base spare held n _ _ this

theorem wf_u32 {n : Int} (h : (Lit.int .u32 n).wf = true) : 0 ≤ n ∧ n < 4294967296 := by
  simp [Lit.wf, IntKind.min, IntKind.max, IntKind.signed, IntKind.bits] at h; omega
theorem wf_u8 {n : Int} (h : (Lit.int .u8 n).wf = true) : 0 ≤ n ∧ n < 256 := by
  simp [Lit.wf, IntKind.min, IntKind.max, IntKind.signed, IntKind.bits] at h; omega
theorem wf_i64 {n : Int} (h : (Lit.int .i64 n).wf = true) : -9223372036854775808 ≤ n ∧ n ≤ 9223372036854775807 := by
  simp [Lit.wf, IntKind.min, IntKind.max, IntKind.signed, IntKind.bits] at h; omega
theorem wf_i32 {n : Int} (h : (Lit.int .i32 n).wf = true) : -2147483648 ≤ n ∧ n < 2147483648 := by
  simp [Lit.wf, IntKind.min, IntKind.max, IntKind.signed, IntKind.bits] at h; omega

theorem flatMap_at {α : Type} {dec : α → List Value} {size : Nat} (hs : 0 < size) (hlen : ∀ a, (dec a).length = size) : ∀ (l : List α) (i j : Nat) (h : i < l.length), j < size → (l.flatMap dec)[i * size + j]? = (dec l[i])[j]? := by
  intro l
  induction l with
  | nil => intro i j h; simp at h
  | cons a l ih =>
    intro i j h hj
    rw [List.flatMap_cons]
    cases i with
    | zero =>
      rw [List.getElem?_append_left (by rw [hlen]; omega)]
      simp
    | succ i =>
      rw [List.getElem?_append_right (by rw [hlen, Nat.succ_mul]; omega), hlen, show (i + 1) * size + j - size = i * size + j by rw [Nat.succ_mul]; omega, ih i j (by simpa using h) hj]
      rfl

theorem flatMap_length {α : Type} {dec : α → List Value} {size : Nat} (hlen : ∀ a, (dec a).length = size) (l : List α) : (l.flatMap dec).length = l.length * size := by
  induction l with
  | nil => simp
  | cons a l ih => rw [List.flatMap_cons, List.length_append, ih, hlen, List.length_cons, Nat.succ_mul]; omega

/-- A slice of flat elements, as a list. -/
theorem open_list {P : Program} {H : Type} {enc : TypeId × Value → H} {w : World} {t e : TypeId} {α : Type} {dec : α → List Value} {ok : α → Prop} {size : Nat} {A : Option Addr} {n c : Nat} {d : DataW H} {p : List MemPlace}
    (ht : P.underlying t = some (.slice e)) (hF : Flat P e (fun cs => ∃ a, ok a ∧ cs = dec a)) (hC : P.cellsOf e = size) (hs : 0 < size) (hlen : ∀ a, (dec a).length = size)
    (h : DataW.Trod enc P w 0 (fun _ => true) true t (.slice A n c) d p) (lt : ∀ x ∈ p, x.block < w.heap.size) :
    ∃ l : List α, l.length = n ∧ (∀ a, a ∈ l → ok a) ∧ Rd w size A n (l.flatMap dec) ∧ n ≤ c ∧ c ≤ 9223372036854775807 := by
  obtain ⟨fuel, hf⟩ := h
  rcases open_slice ht hf with ⟨hcs, _⟩ | ⟨a, len, cap, m, n', D, Pl, hcs, hb, hl, hm, hmm, hx, hi⟩
  · simp [Value.cells] at hcs
    obtain ⟨rfl, rfl, rfl⟩ := hcs
    exact ⟨[], rfl, by simp, Rd.nil _ _ _, Nat.le_refl _, by decide⟩
  · simp [Value.cells] at hcs
    obtain ⟨rfl, rfl, rfl⟩ := hcs
    simp at hmm
    subst hmm
    have hE : ∀ i, i < n → ∃ y : α, ok y ∧ ∀ j, j < size → w.cell? (a.add (i * size + j)) = (dec y)[j]? := by
      intro i hin
      obtain ⟨cs', hc, htr⟩ := hi i (by omega)
      obtain ⟨y, hy, rfl⟩ := hF H enc w 0 _ true n' cs' _ htr
      rw [hC] at hc
      obtain ⟨_, hcl, hat⟩ := World.cells?_some hc
      exact ⟨y, hy, fun j hj => by rw [← Go.Deep.add_add]; exact hat j hj⟩
    have hL : ∀ n0, n0 ≤ n → ∃ l : List α, l.length = n0 ∧ ∀ i (h : i < l.length), ok l[i] ∧ ∀ j, j < size → w.cell? (a.add (i * size + j)) = (dec l[i])[j]? := by
      intro n0
      induction n0 with
      | zero => intro _; exact ⟨[], rfl, fun i h => by simp at h⟩
      | succ k ih =>
        intro hk
        obtain ⟨l, hl, hlp⟩ := ih (by omega)
        obtain ⟨y, hy, hyc⟩ := hE k (by omega)
        refine ⟨l ++ [y], by simp [hl], fun i h => ?_⟩
        by_cases hik : i < l.length
        · rw [List.getElem_append_left hik]; exact hlp i hik
        · have : i = k := by simp at h; omega
          subst this
          rw [List.getElem_append_right (by omega)]
          simp [hl]
          exact ⟨hy, hyc⟩
    obtain ⟨l, hll, hlp⟩ := hL n (Nat.le_refl _)
    refine ⟨l, hll, fun y hy => ?_, ⟨by rw [flatMap_length hlen, hll], fun h0 => ⟨a, rfl, ?_, fun j u hu => ?_⟩⟩, hl, hm⟩
    · obtain ⟨i, hi, rfl⟩ := List.getElem_of_mem hy
      exact (hlp i hi).1
    · have := (hlp 0 (by omega)).2 0 hs
      have h1 : (dec l[0])[0]? = some ((dec l[0])[0]'(by rw [hlen]; exact hs)) := List.getElem?_eq_getElem _
      rw [h1] at this
      have := World.block_lt_of_cell? w _ this
      rw [addr_block] at this
      exact this
    · have hj : j < l.length * size := by
        have := (List.getElem?_eq_some_iff.1 hu).1
        rwa [flatMap_length hlen] at this
      have e := Nat.div_add_mod j size
      have hd : j / size < l.length := Nat.div_lt_of_lt_mul (by rw [Nat.mul_comm]; exact hj)
      have hm := Nat.mod_lt j hs
      rw [Nat.mul_comm] at e
      have := (hlp _ hd).2 _ hm
      rw [e] at this
      rw [this, ← flatMap_at hs hlen l _ _ hd hm, e, hu]

/-- A struct by value, as its cells. -/
theorem open_flat {P : Program} {H : Type} {enc : TypeId × Value → H} {w : World} {t : TypeId} {fs : Array Field} {α : Type} {dec : α → List Value} {ok : α → Prop} {v : Value} {d : DataW H} {p : List MemPlace} {r : Reach} {base : Nat}
    (ht : P.underlying t = some (.struct fs)) (hF : Flat P t (fun cs => ∃ a, ok a ∧ cs = dec a)) (hv : Value.okWide P w r base t v) (h : DataW.Trod enc P w 0 (fun _ => true) true t v d p) :
    ∃ a, ok a ∧ v = .agg (dec a).toArray := by
  obtain ⟨cs, rfl, _⟩ := okWide_struct ht hv
  obtain ⟨fuel, hf⟩ := h
  obtain ⟨a, ha, hc⟩ := hF H enc w 0 _ true fuel _ _ hf
  refine ⟨a, ha, ?_⟩
  rw [← hc]
  simp [Value.cells]

/-- A number's value, its data left as they are. -/
theorem open_num {P : Program} {H : Type} {enc : TypeId × Value → H} {w : World} {t : TypeId} {k : IntKind} {v : Value} {d : DataW H} {p : List MemPlace} {r : Reach} {base : Nat}
    (ht : P.underlying t = some (.int k)) (hv : Value.okWide P w r base t v) (h : DataW.Trod enc P w 0 (fun _ => true) true t v d p) : ∃ n, v = .int k n ∧ (Lit.int k n).wf = true := by
  obtain ⟨n, h1, _, _, h2⟩ := open_int ht hv h
  exact ⟨n, h1, h2⟩

theorem open_truth {P : Program} {H : Type} {enc : TypeId × Value → H} {w : World} {t : TypeId} {v : Value} {d : DataW H} {p : List MemPlace} {r : Reach} {base : Nat}
    (ht : P.underlying t = some .bool) (hv : Value.okWide P w r base t v) (h : DataW.Trod enc P w 0 (fun _ => true) true t v d p) : ∃ b, v = .bool b := by
  obtain ⟨n, h1, _⟩ := open_bool ht hv h
  exact ⟨n, h1⟩

end Go.Proofs.Ytlndihdlodempaa.Z
