/- Parts of a proof, one behind the other: what a machine reaches, functions decompiled, plain lemmas. Conditions stand with each lemma. -/
import Derived.Test.YtamgjehhjkgelaaGreatDoorBdb4d7dfad8
import Derived.Test.YtamgjehhjkgelaaGreatDoorBfb6565c21a
import Derived.Shelf.SlSortCmp.NoneTotal
import Derived.Shelf.Sort.Plain
import Derived.Test.YtamgjehhjkgelaaGreatDoorChecked

set_option linter.unusedVariables false
set_option linter.unusedSimpArgs false
set_option linter.unusedSectionVars false
set_option maxRecDepth 100000
set_option maxHeartbeats 8000000
variable {σ:Go.E.Store}{a0_0 a0_1 a0_2 a1_0:Option Go.Addr}{c0_0 c0_1 c0_2 c1_0:Nat}

noncomputable section
namespace Go.Proofs.YtamgjehhjkgelaaGreatDoor
open Go Go.Shelf
def layS_ren:Go.Shelf.Ren:=⟨fun|6=>64|15=>100|14=>99|28=>120|29=>121|20=>112|21=>113|22=>114|23=>115|24=>116|25=>117|26=>118|27=>119|46=>142|47=>143|48=>144|49=>145|50=>146|57=>162|n=>n,fun|22=>31|24=>9|25=>89|3=>3|39=>176|0=>0|53=>195|55=>53|4=>4|46=>189|45=>188|50=>145|5=>5|9=>9|66=>211|70=>215|76=>226|77=>227|n=>n,fun|n=>n⟩
theorem layS:Go.Proofs.SlLaysF.n6 Tryz.prog layS_ren:={
  mixed:=by kernel_rfl,
  f6:=⟨Tryz.f64.name,by decide,Tryz.func64.trans (congrArg some (by kernel_rfl))⟩,
  f14:=⟨Tryz.f99.name,by decide,Tryz.func99.trans (congrArg some (by kernel_rfl))⟩,
  f15:=Tryz.func100.trans (congrArg some (by kernel_rfl)),
  f20:=⟨Tryz.f112.name,by decide,Tryz.func112.trans (congrArg some (by kernel_rfl))⟩,
  f21:=⟨Tryz.f113.name,by decide,Tryz.func113.trans (congrArg some (by kernel_rfl))⟩,
  f22:=⟨Tryz.f114.name,by decide,Tryz.func114.trans (congrArg some (by kernel_rfl))⟩,
  f23:=⟨Tryz.f115.name,by decide,Tryz.func115.trans (congrArg some (by kernel_rfl))⟩,
  f24:=⟨Tryz.f116.name,by decide,Tryz.func116.trans (congrArg some (by kernel_rfl))⟩,
  f25:=⟨Tryz.f117.name,by decide,Tryz.func117.trans (congrArg some (by kernel_rfl))⟩,
  f26:=⟨Tryz.f118.name,by decide,Tryz.func118.trans (congrArg some (by kernel_rfl))⟩,
  f27:=⟨Tryz.f119.name,by decide,Tryz.func119.trans (congrArg some (by kernel_rfl))⟩,
  f28:=Tryz.func120.trans (congrArg some (by kernel_rfl)),
  f29:=Tryz.func121.trans (congrArg some (by kernel_rfl)),
  f46:=⟨Tryz.f142.name,by decide,Tryz.func142.trans (congrArg some (by kernel_rfl))⟩,
  f47:=Tryz.func143.trans (congrArg some (by kernel_rfl)),
  f48:=Tryz.func144.trans (congrArg some (by kernel_rfl)),
  f49:=⟨Tryz.f145.name,by decide,Tryz.func145.trans (congrArg some (by kernel_rfl))⟩,
  f50:=⟨Tryz.f146.name,by decide,Tryz.func146.trans (congrArg some (by kernel_rfl))⟩,
  f57:=⟨Tryz.f162.name,by decide,Tryz.func162.trans (congrArg some (by kernel_rfl))⟩,
  t0:=Tryz.underlying0,
  a0:=Tryz.isAgg0,
  z0:=Tryz.sizeOf0,
  v0:=Tryz.zeroValue0,
  t3:=Tryz.underlying3,
  a3:=Tryz.isAgg3,
  z3:=Tryz.sizeOf3,
  v3:=Tryz.zeroValue3,
  t4:=Tryz.underlying4,
  a4:=Tryz.isAgg4,
  z4:=Tryz.sizeOf4,
  v4:=Tryz.zeroValue4,
  t5:=Tryz.underlying5,
  a5:=Tryz.isAgg5,
  z5:=Tryz.sizeOf5,
  v5:=Tryz.zeroValue5,
  t9:=Tryz.underlying9,
  a9:=Tryz.isAgg9,
  z9:=Tryz.sizeOf9,
  v9:=Tryz.zeroValue9,
  t22:=Tryz.underlying31,
  a22:=Tryz.isAgg31,
  z22:=Tryz.sizeOf31,
  v22:=Tryz.zeroValue31,
  a24:=Tryz.isAgg9,
  z24:=Tryz.sizeOf9,
  t25:=Tryz.underlying89,
  a25:=Tryz.isAgg89,
  z25:=Tryz.sizeOf89,
  v25:=Tryz.zeroValue89,
  t39:=Tryz.underlying176,
  a39:=Tryz.isAgg176,
  z39:=Tryz.sizeOf176,
  v39:=Tryz.zeroValue176,
  t45:=Tryz.underlying188,
  a45:=Tryz.isAgg188,
  z45:=Tryz.sizeOf188,
  v45:=Tryz.zeroValue188,
  t46:=Tryz.underlying189,
  a46:=Tryz.isAgg189,
  z46:=Tryz.sizeOf189,
  v46:=Tryz.zeroValue189,
  t50:=Tryz.underlying145,
  a50:=Tryz.isAgg145,
  z50:=Tryz.sizeOf145,
  v50:=Tryz.zeroValue145,
  t53:=Tryz.underlying195,
  a53:=Tryz.isAgg195,
  z53:=Tryz.sizeOf195,
  v53:=Tryz.zeroValue195,
  t55:=Tryz.underlying53,
  a55:=Tryz.isAgg53,
  z55:=Tryz.sizeOf53,
  v55:=Tryz.zeroValue53,
  t66:=Tryz.underlying211,
  a66:=Tryz.isAgg211,
  z66:=Tryz.sizeOf211,
  v66:=Tryz.zeroValue211,
  t70:=Tryz.underlying215,
  a70:=Tryz.isAgg215,
  z70:=Tryz.sizeOf215,
  v70:=Tryz.zeroValue215,
  t76:=Tryz.underlying226,
  a76:=Tryz.isAgg226,
  z76:=Tryz.sizeOf226,
  v76:=Tryz.zeroValue226,
  t77:=Tryz.underlying227,
  a77:=Tryz.isAgg227,
  z77:=Tryz.sizeOf227,
  v77:=Tryz.zeroValue227}
def layS0_ren:Go.Shelf.Ren:=⟨fun|6=>64|15=>100|14=>99|28=>120|29=>121|20=>112|21=>113|22=>114|23=>115|24=>116|25=>117|26=>118|27=>119|46=>142|47=>143|48=>144|49=>145|50=>146|57=>162|n=>n,fun|22=>31|24=>9|25=>89|3=>3|39=>176|0=>0|53=>195|55=>53|4=>4|46=>189|45=>188|50=>145|5=>5|9=>9|66=>211|70=>215|76=>226|77=>227|n=>n,fun|n=>n⟩
theorem layS0:Go.Proofs.SlLaysF0.n6 Tryz.prog layS0_ren:={
  mixed:=by kernel_rfl,
  f6:=⟨Tryz.f64.name,by decide,Tryz.func64.trans (congrArg some (by kernel_rfl))⟩,
  f14:=⟨Tryz.f99.name,by decide,Tryz.func99.trans (congrArg some (by kernel_rfl))⟩,
  f15:=Tryz.func100.trans (congrArg some (by kernel_rfl)),
  f20:=⟨Tryz.f112.name,by decide,Tryz.func112.trans (congrArg some (by kernel_rfl))⟩,
  f21:=⟨Tryz.f113.name,by decide,Tryz.func113.trans (congrArg some (by kernel_rfl))⟩,
  f22:=⟨Tryz.f114.name,by decide,Tryz.func114.trans (congrArg some (by kernel_rfl))⟩,
  f23:=⟨Tryz.f115.name,by decide,Tryz.func115.trans (congrArg some (by kernel_rfl))⟩,
  f24:=⟨Tryz.f116.name,by decide,Tryz.func116.trans (congrArg some (by kernel_rfl))⟩,
  f25:=⟨Tryz.f117.name,by decide,Tryz.func117.trans (congrArg some (by kernel_rfl))⟩,
  f26:=⟨Tryz.f118.name,by decide,Tryz.func118.trans (congrArg some (by kernel_rfl))⟩,
  f27:=⟨Tryz.f119.name,by decide,Tryz.func119.trans (congrArg some (by kernel_rfl))⟩,
  f28:=Tryz.func120.trans (congrArg some (by kernel_rfl)),
  f29:=Tryz.func121.trans (congrArg some (by kernel_rfl)),
  f46:=⟨Tryz.f142.name,by decide,Tryz.func142.trans (congrArg some (by kernel_rfl))⟩,
  f47:=Tryz.func143.trans (congrArg some (by kernel_rfl)),
  f48:=Tryz.func144.trans (congrArg some (by kernel_rfl)),
  f49:=⟨Tryz.f145.name,by decide,Tryz.func145.trans (congrArg some (by kernel_rfl))⟩,
  f50:=⟨Tryz.f146.name,by decide,Tryz.func146.trans (congrArg some (by kernel_rfl))⟩,
  f57:=⟨Tryz.f162.name,by decide,Tryz.func162.trans (congrArg some (by kernel_rfl))⟩,
  t0:=Tryz.underlying0,
  a0:=Tryz.isAgg0,
  z0:=Tryz.sizeOf0,
  v0:=Tryz.zeroValue0,
  t3:=Tryz.underlying3,
  a3:=Tryz.isAgg3,
  z3:=Tryz.sizeOf3,
  v3:=Tryz.zeroValue3,
  t4:=Tryz.underlying4,
  a4:=Tryz.isAgg4,
  z4:=Tryz.sizeOf4,
  v4:=Tryz.zeroValue4,
  t5:=Tryz.underlying5,
  a5:=Tryz.isAgg5,
  z5:=Tryz.sizeOf5,
  v5:=Tryz.zeroValue5,
  t9:=Tryz.underlying9,
  a9:=Tryz.isAgg9,
  z9:=Tryz.sizeOf9,
  v9:=Tryz.zeroValue9,
  t22:=Tryz.underlying31,
  a22:=Tryz.isAgg31,
  z22:=Tryz.sizeOf31,
  v22:=Tryz.zeroValue31,
  t25:=Tryz.underlying89,
  a25:=Tryz.isAgg89,
  z25:=Tryz.sizeOf89,
  v25:=Tryz.zeroValue89,
  t39:=Tryz.underlying176,
  a39:=Tryz.isAgg176,
  z39:=Tryz.sizeOf176,
  v39:=Tryz.zeroValue176,
  t45:=Tryz.underlying188,
  a45:=Tryz.isAgg188,
  z45:=Tryz.sizeOf188,
  v45:=Tryz.zeroValue188,
  t46:=Tryz.underlying189,
  a46:=Tryz.isAgg189,
  z46:=Tryz.sizeOf189,
  v46:=Tryz.zeroValue189,
  t50:=Tryz.underlying145,
  a50:=Tryz.isAgg145,
  z50:=Tryz.sizeOf145,
  v50:=Tryz.zeroValue145,
  t53:=Tryz.underlying195,
  a53:=Tryz.isAgg195,
  z53:=Tryz.sizeOf195,
  v53:=Tryz.zeroValue195,
  t55:=Tryz.underlying53,
  a55:=Tryz.isAgg53,
  z55:=Tryz.sizeOf53,
  v55:=Tryz.zeroValue53,
  t66:=Tryz.underlying211,
  a66:=Tryz.isAgg211,
  z66:=Tryz.sizeOf211,
  v66:=Tryz.zeroValue211,
  t70:=Tryz.underlying215,
  a70:=Tryz.isAgg215,
  z70:=Tryz.sizeOf215,
  v70:=Tryz.zeroValue215,
  t76:=Tryz.underlying226,
  a76:=Tryz.isAgg226,
  z76:=Tryz.sizeOf226,
  v76:=Tryz.zeroValue226,
  t77:=Tryz.underlying227,
  a77:=Tryz.isAgg227,
  z77:=Tryz.sizeOf227,
  v77:=Tryz.zeroValue227}
def layT0_ren:Go.Shelf.Ren:=⟨fun|6=>68|15=>100|14=>103|28=>120|29=>121|20=>123|21=>124|22=>125|23=>126|24=>127|25=>128|26=>129|27=>130|46=>147|47=>143|48=>144|49=>148|50=>149|57=>163|n=>n,fun|22=>22|24=>43|25=>127|3=>3|39=>176|0=>0|53=>195|55=>53|4=>4|46=>189|45=>188|50=>145|5=>5|9=>9|66=>211|70=>215|76=>226|77=>227|n=>n,fun|n=>n⟩
theorem layT0:Go.Proofs.SlLaysF0.n6 Tryz.prog layT0_ren:={
  mixed:=by kernel_rfl,
  f6:=⟨Tryz.f68.name,by decide,Tryz.func68.trans (congrArg some (by kernel_rfl))⟩,
  f14:=⟨Tryz.f103.name,by decide,Tryz.func103.trans (congrArg some (by kernel_rfl))⟩,
  f15:=Tryz.func100.trans (congrArg some (by kernel_rfl)),
  f20:=⟨Tryz.f123.name,by decide,Tryz.func123.trans (congrArg some (by kernel_rfl))⟩,
  f21:=⟨Tryz.f124.name,by decide,Tryz.func124.trans (congrArg some (by kernel_rfl))⟩,
  f22:=⟨Tryz.f125.name,by decide,Tryz.func125.trans (congrArg some (by kernel_rfl))⟩,
  f23:=⟨Tryz.f126.name,by decide,Tryz.func126.trans (congrArg some (by kernel_rfl))⟩,
  f24:=⟨Tryz.f127.name,by decide,Tryz.func127.trans (congrArg some (by kernel_rfl))⟩,
  f25:=⟨Tryz.f128.name,by decide,Tryz.func128.trans (congrArg some (by kernel_rfl))⟩,
  f26:=⟨Tryz.f129.name,by decide,Tryz.func129.trans (congrArg some (by kernel_rfl))⟩,
  f27:=⟨Tryz.f130.name,by decide,Tryz.func130.trans (congrArg some (by kernel_rfl))⟩,
  f28:=Tryz.func120.trans (congrArg some (by kernel_rfl)),
  f29:=Tryz.func121.trans (congrArg some (by kernel_rfl)),
  f46:=⟨Tryz.f147.name,by decide,Tryz.func147.trans (congrArg some (by kernel_rfl))⟩,
  f47:=Tryz.func143.trans (congrArg some (by kernel_rfl)),
  f48:=Tryz.func144.trans (congrArg some (by kernel_rfl)),
  f49:=⟨Tryz.f148.name,by decide,Tryz.func148.trans (congrArg some (by kernel_rfl))⟩,
  f50:=⟨Tryz.f149.name,by decide,Tryz.func149.trans (congrArg some (by kernel_rfl))⟩,
  f57:=⟨Tryz.f163.name,by decide,Tryz.func163.trans (congrArg some (by kernel_rfl))⟩,
  t0:=Tryz.underlying0,
  a0:=Tryz.isAgg0,
  z0:=Tryz.sizeOf0,
  v0:=Tryz.zeroValue0,
  t3:=Tryz.underlying3,
  a3:=Tryz.isAgg3,
  z3:=Tryz.sizeOf3,
  v3:=Tryz.zeroValue3,
  t4:=Tryz.underlying4,
  a4:=Tryz.isAgg4,
  z4:=Tryz.sizeOf4,
  v4:=Tryz.zeroValue4,
  t5:=Tryz.underlying5,
  a5:=Tryz.isAgg5,
  z5:=Tryz.sizeOf5,
  v5:=Tryz.zeroValue5,
  t9:=Tryz.underlying9,
  a9:=Tryz.isAgg9,
  z9:=Tryz.sizeOf9,
  v9:=Tryz.zeroValue9,
  t22:=Tryz.underlying22,
  a22:=Tryz.isAgg22,
  z22:=Tryz.sizeOf22,
  v22:=Tryz.zeroValue22,
  t25:=Tryz.underlying127,
  a25:=Tryz.isAgg127,
  z25:=Tryz.sizeOf127,
  v25:=Tryz.zeroValue127,
  t39:=Tryz.underlying176,
  a39:=Tryz.isAgg176,
  z39:=Tryz.sizeOf176,
  v39:=Tryz.zeroValue176,
  t45:=Tryz.underlying188,
  a45:=Tryz.isAgg188,
  z45:=Tryz.sizeOf188,
  v45:=Tryz.zeroValue188,
  t46:=Tryz.underlying189,
  a46:=Tryz.isAgg189,
  z46:=Tryz.sizeOf189,
  v46:=Tryz.zeroValue189,
  t50:=Tryz.underlying145,
  a50:=Tryz.isAgg145,
  z50:=Tryz.sizeOf145,
  v50:=Tryz.zeroValue145,
  t53:=Tryz.underlying195,
  a53:=Tryz.isAgg195,
  z53:=Tryz.sizeOf195,
  v53:=Tryz.zeroValue195,
  t55:=Tryz.underlying53,
  a55:=Tryz.isAgg53,
  z55:=Tryz.sizeOf53,
  v55:=Tryz.zeroValue53,
  t66:=Tryz.underlying211,
  a66:=Tryz.isAgg211,
  z66:=Tryz.sizeOf211,
  v66:=Tryz.zeroValue211,
  t70:=Tryz.underlying215,
  a70:=Tryz.isAgg215,
  z70:=Tryz.sizeOf215,
  v70:=Tryz.zeroValue215,
  t76:=Tryz.underlying226,
  a76:=Tryz.isAgg226,
  z76:=Tryz.sizeOf226,
  v76:=Tryz.zeroValue226,
  t77:=Tryz.underlying227,
  a77:=Tryz.isAgg227,
  z77:=Tryz.sizeOf227,
  v77:=Tryz.zeroValue227}
def layA0_ren:Go.Shelf.Ren:=⟨fun|6=>95|15=>100|14=>110|28=>120|29=>121|20=>133|21=>134|22=>135|23=>136|24=>137|25=>138|26=>139|27=>140|46=>159|47=>143|48=>144|49=>160|50=>161|57=>167|n=>n,fun|22=>23|24=>66|25=>129|3=>3|39=>176|0=>0|53=>195|55=>53|4=>4|46=>189|45=>188|50=>145|5=>5|9=>9|66=>211|70=>215|76=>226|77=>227|n=>n,fun|n=>n⟩
theorem layA0:Go.Proofs.SlLaysF0.n6 Tryz.prog layA0_ren:={
  mixed:=by kernel_rfl,
  f6:=⟨Tryz.f95.name,by decide,Tryz.func95.trans (congrArg some (by kernel_rfl))⟩,
  f14:=⟨Tryz.f110.name,by decide,Tryz.func110.trans (congrArg some (by kernel_rfl))⟩,
  f15:=Tryz.func100.trans (congrArg some (by kernel_rfl)),
  f20:=⟨Tryz.f133.name,by decide,Tryz.func133.trans (congrArg some (by kernel_rfl))⟩,
  f21:=⟨Tryz.f134.name,by decide,Tryz.func134.trans (congrArg some (by kernel_rfl))⟩,
  f22:=⟨Tryz.f135.name,by decide,Tryz.func135.trans (congrArg some (by kernel_rfl))⟩,
  f23:=⟨Tryz.f136.name,by decide,Tryz.func136.trans (congrArg some (by kernel_rfl))⟩,
  f24:=⟨Tryz.f137.name,by decide,Tryz.func137.trans (congrArg some (by kernel_rfl))⟩,
  f25:=⟨Tryz.f138.name,by decide,Tryz.func138.trans (congrArg some (by kernel_rfl))⟩,
  f26:=⟨Tryz.f139.name,by decide,Tryz.func139.trans (congrArg some (by kernel_rfl))⟩,
  f27:=⟨Tryz.f140.name,by decide,Tryz.func140.trans (congrArg some (by kernel_rfl))⟩,
  f28:=Tryz.func120.trans (congrArg some (by kernel_rfl)),
  f29:=Tryz.func121.trans (congrArg some (by kernel_rfl)),
  f46:=⟨Tryz.f159.name,by decide,Tryz.func159.trans (congrArg some (by kernel_rfl))⟩,
  f47:=Tryz.func143.trans (congrArg some (by kernel_rfl)),
  f48:=Tryz.func144.trans (congrArg some (by kernel_rfl)),
  f49:=⟨Tryz.f160.name,by decide,Tryz.func160.trans (congrArg some (by kernel_rfl))⟩,
  f50:=⟨Tryz.f161.name,by decide,Tryz.func161.trans (congrArg some (by kernel_rfl))⟩,
  f57:=⟨Tryz.f167.name,by decide,Tryz.func167.trans (congrArg some (by kernel_rfl))⟩,
  t0:=Tryz.underlying0,
  a0:=Tryz.isAgg0,
  z0:=Tryz.sizeOf0,
  v0:=Tryz.zeroValue0,
  t3:=Tryz.underlying3,
  a3:=Tryz.isAgg3,
  z3:=Tryz.sizeOf3,
  v3:=Tryz.zeroValue3,
  t4:=Tryz.underlying4,
  a4:=Tryz.isAgg4,
  z4:=Tryz.sizeOf4,
  v4:=Tryz.zeroValue4,
  t5:=Tryz.underlying5,
  a5:=Tryz.isAgg5,
  z5:=Tryz.sizeOf5,
  v5:=Tryz.zeroValue5,
  t9:=Tryz.underlying9,
  a9:=Tryz.isAgg9,
  z9:=Tryz.sizeOf9,
  v9:=Tryz.zeroValue9,
  t22:=Tryz.underlying23,
  a22:=Tryz.isAgg23,
  z22:=Tryz.sizeOf23,
  v22:=Tryz.zeroValue23,
  t25:=Tryz.underlying129,
  a25:=Tryz.isAgg129,
  z25:=Tryz.sizeOf129,
  v25:=Tryz.zeroValue129,
  t39:=Tryz.underlying176,
  a39:=Tryz.isAgg176,
  z39:=Tryz.sizeOf176,
  v39:=Tryz.zeroValue176,
  t45:=Tryz.underlying188,
  a45:=Tryz.isAgg188,
  z45:=Tryz.sizeOf188,
  v45:=Tryz.zeroValue188,
  t46:=Tryz.underlying189,
  a46:=Tryz.isAgg189,
  z46:=Tryz.sizeOf189,
  v46:=Tryz.zeroValue189,
  t50:=Tryz.underlying145,
  a50:=Tryz.isAgg145,
  z50:=Tryz.sizeOf145,
  v50:=Tryz.zeroValue145,
  t53:=Tryz.underlying195,
  a53:=Tryz.isAgg195,
  z53:=Tryz.sizeOf195,
  v53:=Tryz.zeroValue195,
  t55:=Tryz.underlying53,
  a55:=Tryz.isAgg53,
  z55:=Tryz.sizeOf53,
  v55:=Tryz.zeroValue53,
  t66:=Tryz.underlying211,
  a66:=Tryz.isAgg211,
  z66:=Tryz.sizeOf211,
  v66:=Tryz.zeroValue211,
  t70:=Tryz.underlying215,
  a70:=Tryz.isAgg215,
  z70:=Tryz.sizeOf215,
  v70:=Tryz.zeroValue215,
  t76:=Tryz.underlying226,
  a76:=Tryz.isAgg226,
  z76:=Tryz.sizeOf226,
  v76:=Tryz.zeroValue226,
  t77:=Tryz.underlying227,
  a77:=Tryz.isAgg227,
  z77:=Tryz.sizeOf227,
  v77:=Tryz.zeroValue227}
end Go.Proofs.YtamgjehhjkgelaaGreatDoor
end

noncomputable section
namespace Go.Proofs.YtamgjehhjkgelaaGreatDoor
open Go Go.E Go.E.OpVal Go.E.OpOk Go.Proofs.Tryz
theorem pf111:plainF Tryz.prog 111=true:=by kernel_rfl
theorem pf141:plainF Tryz.prog 141=true:=by kernel_rfl
theorem pf32:plainF Tryz.prog 32=true:=by kernel_rfl
theorem pf66:plainF Tryz.prog 66=true:=by kernel_rfl
theorem pf92:plainF Tryz.prog 92=true:=by kernel_rfl
theorem pf93:plainF Tryz.prog 93=true:=by kernel_rfl
theorem pf97:plainF Tryz.prog 97=true:=by kernel_rfl
theorem pf98:plainF Tryz.prog 98=true:=by kernel_rfl
def A0_(x0:List UInt8)(x1:List UInt8):Option (Int):=
 some (Lib.compareBytes x0 x1)
theorem C7_{x0:List UInt8}{x1:List UInt8}{r:Int}(hh:A0_ x0 x1=some r):
  Con Tryz.prog 66 #[.string (bs x0),.string (bs x1)] σ [] (PureP (.int .i64 r) σ):=by
 dsimp only [A0_]at hh
 refine Con.mk (n:=8) Tryz.func66 z z z (fun w0=> ?_)
 refine TC.a (TL.i z z (TL.en (TC.a (TL.w z (moveStr (.inl z) z) (TL.w z (moveStr (.inl z) z) (TL.w z (cmpStr z z Tryz.func101 (by kernel_rfl) (by kernel_rfl) (by kernel_rfl) (by kernel_rfl) z z) (TL.i z z (TL.en (TC.ret ?_)))))))))
 obtain rfl:=so hh
 exact rq [4] ⟨z,z,z⟩
def B0_(x0:List UInt8)(x1:List UInt8):Option (Int):=
 bnd (A0_ x0 x1) (fun v4=>some v4)
theorem Cs_{x0:List UInt8}{x1:List UInt8}{r:Int}(hh:B0_ x0 x1=some r):
  Con Tryz.prog 32 #[.string (bs x0),.string (bs x1)] σ [] (PureP (.int .i64 r) σ):=by
 dsimp only [B0_]at hh
 refine Con.mk (n:=8) Tryz.func32 z z z (fun w0=> ?_)
 refine TC.a (TL.i z z (TL.en (TC.a (TL.w z (moveStr (.inl z) z) (TL.w z (moveStr (.inl z) z) ?_)))))
 obtain ⟨v4,u4,hh⟩:=bnd_e hh
 refine TL.op z (callP (C7_ u4) z z pf66 z z z ?_)
 refine TL.i z z (TL.en (TC.ret ?_))
 obtain rfl:=so hh
 exact rq [4] ⟨z,z,z⟩
def isNaNU(x0:Nat):Option (Bool):=
 some (decide (x0≠x0))
theorem isNaNU_con{x0:Nat}{r:Bool}(hh:isNaNU x0=some r):
  Con Tryz.prog 141 #[.int .u64 ((x0:Nat):Int)] σ [] (PureP (.bool r) σ):=by
 dsimp only [isNaNU]at hh
 refine Con.mk (n:=6) Tryz.func141 z z z (fun w0=> ?_)
 refine TC.a (TL.j z z (TL.en (TC.a (TL.i z z (TL.i z z (TL.w z (neqU z z z) (TL.j z z (TL.en (TC.ret ?_)))))))))
 obtain rfl:=so hh
 exact rq [2] ⟨z,z,z⟩
def compareU(x0:Nat)(x1:Nat):Option (Int):=
 bnd (isNaNU x0) (fun v3=>bnd (isNaNU x1) (fun v6=>iteO v3 (iteO v6 (some 0) (some (-1))) (iteO v6 (some 1) (iteO (decide (x0<x1)) (some (-1)) (iteO (decide (x1<x0)) (some 1) (some 0))))))
theorem compareU_con{x0:Nat}{x1:Nat}{r:Int}(hh:compareU x0 x1=some r):
  Con Tryz.prog 111 #[.int .u64 ((x0:Nat):Int),.int .u64 ((x1:Nat):Int)] σ [] (PureP (.int .i64 r) σ):=by
 dsimp only [compareU]at hh
 refine Con.mk (n:=20) Tryz.func111 z z z (fun w0=> ?_)
 refine TC.a (TL.i z z (TL.en (TC.a (TL.i z z ?_))))
 obtain ⟨v3,u3,hh⟩:=bnd_e hh
 refine TL.op z (callP (isNaNU_con u3) z z pf141 z z z ?_)
 refine TL.j z z (TL.en (TC.a (TL.i z z ?_)))
 obtain ⟨v6,u6,hh⟩:=bnd_e hh
 refine TL.op z (callP (isNaNU_con u6) z z pf141 z z z ?_)
 refine TL.j z z (TL.en (TC.seq (TC.a (TL.j z z (TL.en (TC.cB z hh (fun h101 hh=> ?_) (fun h101 hh=> ?_)))))))
 ·refine TC.seq (TC.a (TL.j z z (TL.en (TC.cB z hh (fun h102 hh=> ?_) (fun h102 hh=> ?_)))))
  ·refine TC.a (TL.i z z (TL.en (TC.ret (S.r (S.r ?_)))))
   obtain rfl:=so hh
   exact rq [4] ⟨z,z,z⟩
  refine TC.skip (S.n (TC.a (TL.i z z (TL.en (TC.ret (S.r ?_))))))
  obtain rfl:=so hh
  exact rq [4] ⟨z,z,z⟩
 refine TC.skip (S.n (TC.seq (TC.a (TL.j z z (TL.en (TC.cB z hh (fun h103 hh=> ?_) (fun h103 hh=> ?_)))))))
 ·refine TC.a (TL.i z z (TL.en (TC.ret (S.r ?_))))
  obtain rfl:=so hh
  exact rq [4] ⟨z,z,z⟩
 refine TC.skip (S.n (TC.seq (TC.a (TL.i z z (TL.i z z (TL.w z (lssU z z z) (TL.en (TC.cD z hh (fun h104 hh=> ?_) (fun h104 hh=> ?_)))))))))
 ·refine TC.a (TL.i z z (TL.en (TC.ret (S.r ?_))))
  obtain rfl:=so hh
  exact rq [4] ⟨z,z,z⟩
 refine TC.skip (S.n (TC.seq (TC.a (TL.i z z (TL.i z z (TL.w z (gtrU z z z) (TL.en (TC.cD z hh (fun h105 hh=> ?_) (fun h105 hh=> ?_)))))))))
 ·refine TC.a (TL.i z z (TL.en (TC.ret (S.r ?_))))
  obtain rfl:=so hh
  exact rq [4] ⟨z,z,z⟩
 refine TC.skip (S.n (TC.a (TL.i z z (TL.en (TC.ret ?_)))))
 obtain rfl:=so hh
 exact rq [4] ⟨z,z,z⟩
def D4_(x0:Bool):Option (Int):=
 iteO x0 (some 1) (some 0)
theorem Fq_{x0:Bool}{r:Int}(hh:D4_ x0=some r):
  Con Tryz.prog 98 #[.bool x0] σ [] (PureP (.int .i64 r) σ):=by
 dsimp only [D4_]at hh
 refine Con.mk (n:=4) Tryz.func98 z z z (fun w0=> ?_)
 refine TC.a (TL.i z z (TL.en (TC.seq (TC.a (TL.j z z (TL.en (TC.cB z hh (fun h101 hh=> ?_) (fun h101 hh=> ?_))))))))
 ·refine TC.a (TL.i z z (TL.en (TC.ret (S.r ?_))))
  obtain rfl:=so hh
  exact rq [2] ⟨z,z,z⟩
 refine TC.skip (S.n (TC.a (TL.i z z (TL.en (TC.ret ?_)))))
 obtain rfl:=so hh
 exact rq [2] ⟨z,z,z⟩
def B9_(x0:List Int)(k103:Nat):Option ((Nat)⊕(Int)):=
 iteO (decide (((k103:Nat):Int)<((x0.length:Nat):Int))) (iteO (decide ((nth x0 k103 (0:Int))≠0)) (fin (some (nth x0 k103 (0:Int)))) (nxt (k103+1))) (fin (some 0))
def E4_(x0:List Int):Option (Int):=
 iter (fun q:Nat=>B9_ x0 q) 0
theorem Fr_{x0:List Int}(f0_0:RS σ 1 eI_ (.slice a0_0 x0.length c0_0) x0){r:Int}(hh:E4_ x0=some r):
  Con Tryz.prog 92 #[.slice a0_0 x0.length c0_0] σ [] (PureP (.int .i64 r) σ):=by
 dsimp only [E4_]at hh
 have f0_0b:=f0_0.rv.big
 refine Con.mk (n:=18) Tryz.func92 z z z (fun w0=> ?_)
 refine TC.a (TL.i z z (TL.en (TC.a (TL.i z z (TL.en (TC.seq (TC.a (TL.s z z (TL.w z (lenC z underlying46 z) (TL.i z z (TL.en (TC.block (TC.loopG (α:=(Nat)×(Unit)) (rgs [(2,1),(5,1),(8,9)]) (fun g=>[(8,.int .i64 ((g.1:Nat):Int))]) (fun g=>[]) (fun g=>σ) (fun g=>iter (fun q:Nat=>B9_ x0 q) g.1=some r) (fun g=>rounds (fun q:Nat=>B9_ x0 q) g.1) (0,()) (Sub.pre 0 z) z (by repeat (first|exact trivial|refine ⟨z,?_⟩)) hh (fun g1 j1 hg1=> ?_))))))))))))))
 obtain ⟨k103,_⟩:=g1
 have hh:=hg1;clear hg1
 try dsimp only
 obtain ⟨z1,hh,hR1⟩:=iter_e hh
 dsimp only [B9_]at hh
 refine TC.a (TL.w z (OpVal.lss z z z) (TL.en (TC.seq (TC.cD z hh (fun h104 hh=> ?_) (fun h104 hh=> ?_)))))
 ·refine TC.skip (S.n (TC.seq (TC.block (TC.a (TL.w z (indexN z underlying46 sz3 z z f0_0.rv.sl (by omega)) (TL.w z (loadS1 (0:Int) z ag3 z f0_0 (by omega) z) (TL.i z z (TL.en (TC.a (TL.i z z (TL.i z z (TL.w z (OpVal.neq z z z) (TL.en (TC.cD z hh (fun h105 hh=> ?_) (fun h105 hh=> ?_)))))))))))))))
  ·refine TC.a (TL.i z z (TL.i z z (TL.en (TC.ret (B.r (S.r (S.r ?_)))))))
   replace hh:=fin_x hR1 hh
   refine B.r (S.r ?_)
   obtain rfl:=so hh
   exact rq [2] ⟨z,z,z⟩
  refine TC.skip (B.n (S.n (TC.region (TL.w z (OpVal.succ z z z (by omega)) (TL.i z z (TL.en ?_))))))
  obtain ⟨hh,hlt106⟩:=nxt_x hR1 hh
  exact lf ((k103+1),()) hlt106 hh (Sub.pre 0 z)
 refine TC.exit (S.x (S.x ?_))
 replace hh:=fin_x hR1 hh
 refine TC.exitHere (S.n (TC.a (TL.i z z (TL.i z z (TL.en (TC.ret ?_))))))
 obtain rfl:=so hh
 exact rq [2] ⟨z,z,z⟩
def Ct_(x0:Tip)(x1:Tip):Option (Int):=
 bnd (A7_ x0.state x1.state) (fun v8=>bnd (B0_ x0.out x1.out) (fun v13=>bnd (E4_ [v8,v13]) (fun v15=>some v15)))
theorem F8_{x0:Tip}{x1:Tip}{r:Int}(hh:Ct_ x0 x1=some r):
  Con Tryz.prog 58 #[.agg #[.int .i64 x0.state,.string (bs x0.out)],.agg #[.int .i64 x1.state,.string (bs x1.out)]] σ [] (PureP (.int .i64 r) σ):=by
 dsimp only [Ct_]at hh
 refine Con.mk (n:=17) Tryz.func58 z z z (fun w0=> ?_)
 refine TC.a (TL.op z (boxA z z z z (fun b101=> ?_)))
 refine TL.op z (boxA z z z z (fun b103=> ?_))
 refine TL.i z z (TL.en (TC.seq ?_))
 obtain ⟨v8,u8,hh⟩:=bnd_e hh
 obtain ⟨v13,u13,hh⟩:=bnd_e hh
 obtain ⟨v15,u15,hh⟩:=bnd_e hh
 refine TC.draw [] (by kernel_rfl) (TA.a 0 z (fieldLoc z fo43_0 z) z (TA.b 1 z (loadLoc z ag3 z (i:=1) z z) z (TA.a 2 z (fieldLoc z fo43_0 z) z (TA.b 3 z (loadLoc z ag3 z (i:=0) z z) z (TA.a 5 z (fieldLoc z fo43_1 z) z (TA.b 6 z (loadLoc z ag9 z (i:=1) z z) z (TA.a 7 z (fieldLoc z fo43_1 z) z (TA.b 8 z (loadLoc z ag9 z (i:=0) z z) z (TA.ac 4 z (callP (B2_ u8) z z pf93 z z z (k0 ?_)))))))))))
 refine TA.ac 9 z (callP (Cs_ u13) z z pf32 z z z (k0 ?_))
 refine TA.ac 10 z (OpOk.lit (enc:=eI_) [v8,v13] z underlying46 sz3 ze3 z z z eIl_ (by decide) (by decide) (0:Int) z (by decide) z (by decide) eIo_ (fun a110 c111=>(k1 ?_)))
 refine TA.ac 11 z (callK (Con.lend eIl_ (fun _ hle114 hr113=>Fr_ hr113 u15)) z z pf92 z z z z (k1 ?_))
 refine TA.a 12 z (moveI (.inr z) z) z (TA.dn (S.n (TC.rt 0 ?_)))
 obtain rfl:=so hh
 exact rq [4] ⟨z,z,z⟩
def compareUs_b1(x0:List Nat)(x1:List Nat)(k103:Nat):Option ((Nat)⊕(Int)):=
 iteO (decide (((k103:Nat):Int)<((x0.length:Nat):Int))) (iteO (decide (((x1.length:Nat):Int)≤((k103:Nat):Int))) (fin (some 1)) (grd (k103<x1.length) (bnd (compareU (nth x0 k103 (0:Nat)) (nth x1 k103 (0:Nat))) (fun v23=>iteO (decide (v23≠0)) (fin (some v23)) (nxt (k103+1)))))) (fin (iteO (decide (((x0.length:Nat):Int)<((x1.length:Nat):Int))) (some (-1)) (some 0)))
def compareUs(x0:List Nat)(x1:List Nat):Option (Int):=
 iter (fun q:Nat=>compareUs_b1 x0 x1 q) 0
theorem compareUs_con{x0:List Nat}{x1:List Nat}(f0_0:RS σ 1 encW (.slice a0_0 x0.length c0_0) x0)(f1_0:RS σ 1 encW (.slice a1_0 x1.length c1_0) x1){r:Int}(hh:compareUs x0 x1=some r):
  Con Tryz.prog 97 #[.slice a0_0 x0.length c0_0,.slice a1_0 x1.length c1_0] σ [] (PureP (.int .i64 r) σ):=by
 dsimp only [compareUs]at hh
 have f0_0b:=f0_0.rv.big
 have f1_0b:=f1_0.rv.big
 refine Con.mk (n:=36) Tryz.func97 z z z (fun w0=> ?_)
 refine TC.a (TL.i z z (TL.en (TC.seq (TC.a (TL.s z z (TL.w z (lenC z underlying172 z) (TL.i z z (TL.en (TC.block (TC.loopG (α:=(Nat)×(Unit)) (rgs [(4,5),(11,20)]) (fun g=>[(11,.int .i64 ((g.1:Nat):Int))]) (fun g=>[]) (fun g=>σ) (fun g=>iter (fun q:Nat=>compareUs_b1 x0 x1 q) g.1=some r) (fun g=>rounds (fun q:Nat=>compareUs_b1 x0 x1 q) g.1) (0,()) (Sub.pre 0 z) z (by repeat (first|exact trivial|refine ⟨z,?_⟩)) hh (fun g1 j1 hg1=> ?_)))))))))))
 obtain ⟨k103,_⟩:=g1
 have hh:=hg1;clear hg1
 try dsimp only
 obtain ⟨z1,hh,hR1⟩:=iter_e hh
 dsimp only [compareUs_b1]at hh
 refine TC.a (TL.w z (OpVal.lss z z z) (TL.en (TC.seq (TC.cD z hh (fun h104 hh=> ?_) (fun h104 hh=> ?_)))))
 ·refine TC.skip (S.n (TC.seq (TC.block (TC.a (TL.i z z (TL.w z (indexN z underlying172 sz53 z z f0_0.rv.sl (by omega)) (TL.w z (loadS1 (0:Nat) z ag53 z f0_0 (by omega) z) (TL.i z z (TL.i z z (TL.en (TC.seq (TC.a (TL.i z z (TL.s z z (TL.w z (lenC z underlying172 z) ?_)))))))))))))))
  refine TL.w z (OpVal.geq z z z) (TL.en (TC.cD z hh (fun h105 hh=> ?_) (fun h105 hh=> ?_)))
  ·refine TC.a (TL.i z z (TL.en (TC.ret (S.r (B.r (S.r (S.r ?_)))))))
   replace hh:=fin_x hR1 hh
   refine B.r (S.r ?_)
   obtain rfl:=so hh
   exact rq [4] ⟨z,z,z⟩
  refine TC.skip (S.n (TC.a (TL.s z z (TL.i z z ?_))))
  have u18:=grd_c hh
  replace hh:=grd_t hh
  refine TL.w z (indexN z underlying172 sz53 z z f1_0.rv.sl (by omega)) (TL.w z (loadS1 (0:Nat) z ag53 z f1_0 (by omega) z) (TL.i z z (TL.en (TC.a (TL.i z z (TL.i z z ?_))))))
  obtain ⟨v23,u23,hh⟩:=bnd_e hh
  refine TL.op z (callP (compareU_con u23) z z pf111 z z z ?_)
  refine TL.i z z (TL.en (TC.a (TL.i z z (TL.w z (OpVal.neq z z z) (TL.en (TC.cD z hh (fun h106 hh=> ?_) (fun h106 hh=> ?_)))))))
  ·refine TC.a (TL.i z z (TL.i z z (TL.en (TC.ret (B.r (S.r (S.r ?_)))))))
   replace hh:=fin_x hR1 hh
   refine B.r (S.r ?_)
   obtain rfl:=so hh
   exact rq [4] ⟨z,z,z⟩
  refine TC.skip (B.n (S.n (TC.region (TL.w z (OpVal.succ z z z (by omega)) (TL.i z z (TL.en ?_))))))
  obtain ⟨hh,hlt107⟩:=nxt_x hR1 hh
  exact lf ((k103+1),()) hlt107 hh (Sub.pre 0 z)
 refine TC.exit (S.x (S.x ?_))
 replace hh:=fin_x hR1 hh
 refine TC.exitHere (S.n (TC.seq (TC.a (TL.s z z (TL.w z (lenC z underlying172 z) (TL.s z z (TL.w z (lenC z underlying172 z) (TL.w z (OpVal.lss z z z) (TL.en (TC.cD z hh (fun h108 hh=> ?_) (fun h108 hh=> ?_)))))))))))
 ·refine TC.a (TL.i z z (TL.en (TC.ret (S.r ?_))))
  obtain rfl:=so hh
  exact rq [4] ⟨z,z,z⟩
 refine TC.skip (S.n (TC.a (TL.i z z (TL.en (TC.ret ?_)))))
 obtain rfl:=so hh
 exact rq [4] ⟨z,z,z⟩
def Cx_(x0:Arc)(x1:Arc):Option (Int):=
 bnd (A7_ x0.frm x1.frm) (fun v8=>bnd (A7_ x0.to x1.to) (fun v13=>bnd (compareUs [x0.set.a,x0.set.b,x0.set.c,x0.set.d] [x1.set.a,x1.set.b,x1.set.c,x1.set.d]) (fun v18=>bnd (B0_ x0.out x1.out) (fun v23=>bnd (D4_ x0.copy) (fun v26=>bnd (D4_ x1.copy) (fun v29=>bnd (A7_ v26 v29) (fun v30=>bnd (E4_ [v8,v13,v18,v23,v30]) (fun v32=>some v32))))))))
theorem F9_{x0:Arc}{x1:Arc}{r:Int}(hh:Cx_ x0 x1=some r):
  Con Tryz.prog 60 #[.agg #[.int .i64 x0.frm,.int .i64 x0.to,.int .u64 ((x0.set.a:Nat):Int),.int .u64 ((x0.set.b:Nat):Int),.int .u64 ((x0.set.c:Nat):Int),.int .u64 ((x0.set.d:Nat):Int),.string (bs x0.out),.bool x0.copy],.agg #[.int .i64 x1.frm,.int .i64 x1.to,.int .u64 ((x1.set.a:Nat):Int),.int .u64 ((x1.set.b:Nat):Int),.int .u64 ((x1.set.c:Nat):Int),.int .u64 ((x1.set.d:Nat):Int),.string (bs x1.out),.bool x1.copy]] σ [] (PureP (.int .i64 r) σ):=by
 dsimp only [Cx_]at hh
 refine Con.mk (n:=34) Tryz.func60 z z z (fun w0=> ?_)
 refine TC.a (TL.op z (boxA z z z z (fun b101=> ?_)))
 refine TL.op z (boxA z z z z (fun b103=> ?_))
 refine TL.i z z (TL.en (TC.seq ?_))
 obtain ⟨v8,u8,hh⟩:=bnd_e hh
 obtain ⟨v13,u13,hh⟩:=bnd_e hh
 obtain ⟨v18,u18,hh⟩:=bnd_e hh
 obtain ⟨v23,u23,hh⟩:=bnd_e hh
 obtain ⟨v26,u26,hh⟩:=bnd_e hh
 obtain ⟨v29,u29,hh⟩:=bnd_e hh
 obtain ⟨v30,u30,hh⟩:=bnd_e hh
 obtain ⟨v32,u32,hh⟩:=bnd_e hh
 refine TC.draw [] (by kernel_rfl) (TA.a 0 z (fieldLoc z fo66_0 z) z (TA.b 1 z (loadLoc z ag3 z (i:=1) z z) z (TA.a 2 z (fieldLoc z fo66_0 z) z (TA.b 3 z (loadLoc z ag3 z (i:=0) z z) z (TA.a 5 z (fieldLoc z fo66_1 z) z (TA.b 6 z (loadLoc z ag3 z (i:=1) z z) z (TA.a 7 z (fieldLoc z fo66_1 z) z (TA.b 8 z (loadLoc z ag3 z (i:=0) z z) z (TA.a 10 z (fieldLoc z fo66_2 z) z (TA.b 11 z (sliceArr z underlying55 sz53 z) z (TA.a 12 z (fieldLoc z fo66_2 z) z (TA.b 13 z (sliceArr z underlying55 sz53 z) z (TA.a 15 z (fieldLoc z fo66_3 z) z (TA.b 16 z (loadLoc z ag9 z (i:=1) z z) z (TA.a 17 z (fieldLoc z fo66_3 z) z ?_)))))))))))))))
 refine TA.b 18 z (loadLoc z ag9 z (i:=0) z z) z (TA.a 20 z (fieldLoc z fo66_4 z) z (TA.b 21 z (loadLoc z ag4 z (i:=1) z z) z (TA.a 23 z (fieldLoc z fo66_4 z) z (TA.b 24 z (loadLoc z ag4 z (i:=0) z z) z (TA.ac 4 z (callP (B2_ u8) z z pf93 z z z (k0 ?_)))))))
 refine TA.ac 9 z (callP (B2_ u13) z z pf93 z z z (k0 ?_))
 refine TA.front 1 z z (TA.ac 14 z (callK (Con.lendC (fun _ hle116 hr114=>Con.lendC (fun _ hle117 hr115=>compareUs_con (RS.ofCells (l:=[x0.set.a,x0.set.b,x0.set.c,x0.set.d]) (hle117 _ _ hr114) encW_len encW_one z z z) (RS.ofCells (l:=[x1.set.a,x1.set.b,x1.set.c,x1.set.d]) hr115 encW_len encW_one z z z) u18))) z z pf97 z z z z ⟨(fun w h=>sees_of (Store.le.refl _) (fun r hr=>mem_pick [1,0] z hr) w h),?_⟩))
 refine TA.ac 19 z (callP (Cs_ u23) z z pf32 z z z ⟨(fun w h=>sees_of (Store.le.refl _) (fun r hr=>mem_pick [1,0] z hr) w h),?_⟩)
 refine TA.ac 22 z (callP (Fq_ u26) z z pf98 z z z ⟨(fun w h=>sees_of (Store.le.refl _) (fun r hr=>mem_pick [1,0] z hr) w h),?_⟩)
 refine TA.ac 25 z (callP (Fq_ u29) z z pf98 z z z ⟨(fun w h=>sees_of (Store.le.refl _) (fun r hr=>mem_pick [1,0] z hr) w h),?_⟩)
 refine TA.ac 26 z (callP (B2_ u30) z z pf93 z z z ⟨(fun w h=>sees_of (Store.le.refl _) (fun r hr=>mem_pick [1,0] z hr) w h),?_⟩)
 refine TA.ac 27 z (OpOk.lit (enc:=eI_) [v8,v13,v18,v23,v30] z underlying46 sz3 ze3 z z z eIl_ (by decide) (by decide) (0:Int) z (by decide) z (by decide) eIo_ (fun a118 c119=>⟨(fun w h=>sees_of (Store.le.refl _) (fun r hr=>mem_pick [2,1] z hr) w h),?_⟩))
 refine TA.ac 28 z (callK (Con.lend eIl_ (fun _ hle122 hr121=>Fr_ hr121 u32)) z z pf92 z z z z ⟨(fun w h=>sees_of (Store.le.refl _) (fun r hr=>mem_pick [2,1] z hr) w h),?_⟩)
 refine TA.a 29 z (moveI (.inr z) z) z (TA.dn (S.n (TC.rt 0 ?_)))
 obtain rfl:=so hh
 exact rq [4] ⟨z,z,z⟩
end Go.Proofs.YtamgjehhjkgelaaGreatDoor
end

noncomputable section
namespace Go.E
open Go
section
variable {S R:Type} {step:S→Option (S⊕R)}
theorem iter_any {y no : R} (f : Nat → S) (p : Nat → Bool) (n : Nat) (hs : ∀ k, k < n → p k = false → step (f k) = some (.inl (f (k + 1)))) (hy : ∀ k, k < n → p k = true → step (f k) = some (.inr y))
    (hd:step (f n)=some (.inr no)): ∀k,k≤n→iter step (f k)=some (bif (List.range n).any (fun i=>decide (k≤i) && p i) then y else no):=by
  intro k hk
  obtain ⟨m,rfl⟩: ∃m,k=n - m:=⟨n - k,by omega⟩
  induction m with
  |zero=>
    have:(List.range n).any (fun i=>decide (n - 0≤i) && p i)=false:=by
      rw [List.any_eq_false];intro i hi;have:=List.mem_range.1 hi;simp;omega
    rw [this];exact iter_done hd
  |succ m ih=>
    by_cases h:m<n
    · have e:n - (m+1)+1=n - m:=by omega
      cases hp:p (n - (m+1))with
      |true=>
        have:(List.range n).any (fun i=>decide (n - (m+1)≤i) && p i)=true:=by
          rw [List.any_eq_true];exact ⟨n - (m+1),List.mem_range.2 (by omega),by simp [hp]⟩
        rw [this];exact iter_done (hy _ (by omega) hp)
      |false=>
        have h1:=hs (n - (m+1)) (by omega) hp
        rw [e]at h1
        have:(List.range n).any (fun i=>decide (n - (m+1)≤i) && p i)=(List.range n).any (fun i=>decide (n - m≤i) && p i):=by
          rw [Bool.eq_iff_iff,List.any_eq_true,List.any_eq_true]
          constructor
          · rintro ⟨i,hi,hx⟩
            simp only [Bool.and_eq_true,decide_eq_true_eq]at hx
            refine ⟨i,hi,?_⟩
            have:i≠n - (m+1):=fun h=>by rw [h,hp]at hx;exact absurd hx.2 Bool.false_ne_true
            simp [hx.2];omega
          rintro ⟨i,hi,hx⟩
          simp only [Bool.and_eq_true,decide_eq_true_eq]at hx
          exact ⟨i,hi,by simp [hx.2];omega⟩
        rw [this]
        exact iter_next h1 (ih (by omega))
    have e:n - (m+1)=n - m:=by omega
    rw [e];exact ih (by omega)
theorem iter_any0{y no:R}(f:Nat→S)(p:Nat→Bool)(n:Nat)(hs: ∀k,k<n→p k=false→step (f k)=some (.inl (f (k+1))))(hy: ∀k,k<n→p k=true→step (f k)=some (.inr y))
    (hd:step (f n)=some (.inr no)):iter step (f 0)=some (bif (List.range n).any p then y else no):=by
  have:=iter_any f p n hs hy hd 0 (by omega)
  simpa using this
theorem iter_seq0{r:R}(f:Nat→S)(n:Nat)(hs: ∀k,k<n→step (f k)=some (.inl (f (k+1))))(hd:step (f n)=some (.inr r)):iter step (f 0)=some r:=iter_seq f n hs hd 0 (by omega)
end
theorem range_any{α:Type}(l:List α)(d:α)(p:α→Bool):(List.range l.length).any (fun i=>p (nth l i d))=l.any p:=by
  rw [Bool.eq_iff_iff,List.any_eq_true,List.any_eq_true]
  constructor
  · rintro ⟨i,hi,h⟩
    have hi:=List.mem_range.1 hi
    exact ⟨nth l i d,List.mem_of_getElem? (getD_some l hi d),h⟩
  rintro ⟨x,hx,h⟩
  obtain ⟨i,hi,rfl⟩:=List.getElem_of_mem hx
  refine ⟨i,List.mem_range.2 hi,?_⟩
  have:nth l i d=l[i]:=by have:=getD_some l hi d;rw [List.getElem?_eq_getElem hi]at this;exact (Option.some.inj this).symm
  rw [this];exact h
theorem take_snoc{α:Type}(l:List α){k:Nat}(h:k<l.length)(d:α):l.take (k+1)=l.take k++[nth l k d]:=by
  rw [List.take_add_one,getD_some l h d];rfl
theorem nth_mem'{α:Type}{l:List α}{i:Nat}(h:i<l.length)(d:α):nth l i d∈l:=List.mem_of_getElem? (getD_some l h d)
end Go.E
end

noncomputable section
namespace Go.Proofs.YtamgjehhjkgelaaGreatDoor
open Go Go.E Go.Sort
structure GoodCmp {α:Type} (c:α→α→Int):Prop where
  eq: ∀x y,c x y=0↔x=y
  anti: ∀x y,c x y<0↔0<c y x
  trans: ∀x y z,c x y<0→c y z<0→c x z<0
theorem GoodCmp.total{α:Type}{c:α→α→Int}(h:GoodCmp c):TotalCmp c where
  swo := {
    irrefl:=fun x=>by have:=(h.eq x x).2 rfl;simp [ltOf,this]
    trans:=fun x y z h1 h2=>by
      simp only [ltOf,decide_eq_true_eq]at *
      exact h.trans x y z h1 h2
    ntrans:=fun x y z h1 h2=>by
      simp only [ltOf,decide_eq_false_iff_not]at *
      intro h3
      by_cases e1:x=y
      · subst e1;exact h2 h3
      by_cases e2:y=z
      · subst e2;exact h1 h3
      have n1:c x y≠0:=fun e=>e1 ((h.eq _ _).1 e)
      have n2:c y z≠0:=fun e=>e2 ((h.eq _ _).1 e)
      have h4:c z y<0:=(h.anti _ _).2 (by omega)
      exact h1 (h.trans _ _ _ h3 h4)}
  tot:=fun x y h1 h2=>by
    simp only [ltOf,decide_eq_false_iff_not]at *
    refine (h.eq x y).1 ?_
    have:=(h.anti y x)
    omega
def corI(a b:Int):Int:=if a≠0 then a else b
theorem GoodCmp.lex {α β γ : Type} {c : β → β → Int} {d : γ → γ → Int} (hc : GoodCmp c) (hd : GoodCmp d) (f : α → β) (g : α → γ) (hfg : ∀ x y, f x = f y → g x = g y → x = y) : GoodCmp fun x y => corI (c (f x) (f y)) (d (g x) (g y)) where
  eq x y:=by
    unfold corI
    by_cases h:c (f x) (f y)=0
    · have hf:=(hc.eq _ _).1 h
      simp only [h,ne_eq,not_true_eq_false,if_false,hd.eq]
      exact ⟨fun hg=>hfg x y hf hg,fun e=>by rw [e]⟩
    simp only [ne_eq,h,not_false_eq_true,if_true,false_iff]
    intro e;subst e;exact h ((hc.eq _ _).2 rfl)
  anti x y:=by
    unfold corI
    have h1:=hc.anti (f x) (f y)
    have h2:=hc.anti (f y) (f x)
    have h3:=hd.anti (g x) (g y)
    by_cases h:c (f x) (f y)=0
    · have hf:=(hc.eq _ _).1 h
      have h':c (f y) (f x)=0:=(hc.eq _ _).2 hf.symm
      simp only [h,h',ne_eq,not_true_eq_false,if_false];exact h3
    have h':c (f y) (f x)≠0:=fun e=>h ((hc.eq _ _).2 ((hc.eq _ _).1 e).symm)
    simp only [h,h',ne_eq,not_false_eq_true,if_true];exact h1
  trans x y z := by
    unfold corI
    intro h1 h2
    by_cases a:c (f x) (f y)=0
    · have ea:=(hc.eq _ _).1 a
      rw [a]at h1;simp only [ne_eq,not_true_eq_false,if_false]at h1
      rw [ea]
      by_cases b:c (f y) (f z)=0
      · rw [b]at h2 ⊢
        simp only [ne_eq,not_true_eq_false,if_false]at h2 ⊢
        exact hd.trans _ _ _ h1 h2
      simp only [ne_eq,b,not_false_eq_true,if_true]at h2 ⊢;exact h2
    simp only [ne_eq,a,not_false_eq_true,if_true]at h1
    by_cases b:c (f y) (f z)=0
    · have eb:=(hc.eq _ _).1 b
      rw [←eb]
      simp only [ne_eq,a,not_false_eq_true,if_true];exact h1
    simp only [ne_eq,b,not_false_eq_true,if_true]at h2
    have h3:=hc.trans _ _ _ h1 h2
    have h4:c (f x) (f z)≠0:=by omega
    simp only [ne_eq,h4,not_false_eq_true,if_true];exact h3
def cmpI(x y:Int):Int:=if x<y then -1 else if y<x then 1 else 0
theorem cmpI_good:GoodCmp cmpI where
  eq x y:=by unfold cmpI;(repeat' split)<;>omega
  anti x y:=by unfold cmpI;(repeat' split)<;>omega
  trans x y z:=by unfold cmpI;(repeat' split)<;>omega
def cmpN(x y:Nat):Int:=if x<y then -1 else if y<x then 1 else 0
theorem cmpN_good:GoodCmp cmpN where
  eq x y:=by unfold cmpN;(repeat' split)<;>omega
  anti x y:=by unfold cmpN;(repeat' split)<;>omega
  trans x y z:=by unfold cmpN;(repeat' split)<;>omega
theorem cmpB_eq: ∀a b:List UInt8,Lib.compareBytes a b=0↔a=b
  |[],[]=>by simp [Lib.compareBytes]
  |[],_::_=>by simp [Lib.compareBytes]
  |_::_,[]=>by simp [Lib.compareBytes]
  |x::a,y::b=>by
    simp only [Lib.compareBytes]
    split
    · rename_i h;simp;intro e;subst e;exact absurd h (UInt8.lt_irrefl _)
    rename_i h
    split
    · rename_i h';simp;intro e;subst e;exact absurd h' (UInt8.lt_irrefl _)
    rename_i h'
    have:x=y:=UInt8.le_antisymm (UInt8.not_lt.1 h') (UInt8.not_lt.1 h)
    subst this
    simp [cmpB_eq a b]
theorem cmpB_anti: ∀a b:List UInt8,Lib.compareBytes a b<0↔0<Lib.compareBytes b a
  |[],[]=>by simp [Lib.compareBytes]
  |[],_::_=>by simp [Lib.compareBytes]
  |_::_,[]=>by simp [Lib.compareBytes]
  | x :: a, y :: b => by
    simp only [Lib.compareBytes]
    by_cases h:x<y
    · have h': ¬ y<x:=fun h2=>UInt8.lt_irrefl _ (UInt8.lt_trans h h2)
      simp [h,h']
    by_cases h':y<x
    · simp [h,h']
    simp [h,h',cmpB_anti a b]
theorem cmpB_trans: ∀a b c:List UInt8,Lib.compareBytes a b<0→Lib.compareBytes b c<0→Lib.compareBytes a c<0
  |[],[],c,h,_=>by simp [Lib.compareBytes]at h
  |[],_::_,[],_,h=>by simp [Lib.compareBytes]at h
  |[],_::_,_::_,_,_=>by simp [Lib.compareBytes]
  |_::_,[],c,h,_=>by simp [Lib.compareBytes]at h
  |_::_,_::_,[],_,h=>by simp [Lib.compareBytes]at h
  | x :: a, y :: b, z :: c, h1, h2 => by
    simp only [Lib.compareBytes]at *
    by_cases hxy:x<y
    · by_cases hyz:y<z
      · have:=UInt8.lt_trans hxy hyz;simp [this]
      by_cases hzy:z<y
      · simp [hyz,hzy]at h2
      have:y=z:=UInt8.le_antisymm (UInt8.not_lt.1 hzy) (UInt8.not_lt.1 hyz)
      subst this;simp [hxy]
    by_cases hyx:y<x
    · simp [hxy,hyx]at h1
    have:x=y:=UInt8.le_antisymm (UInt8.not_lt.1 hyx) (UInt8.not_lt.1 hxy)
    subst this
    simp only [UInt8.lt_irrefl,if_false]at h1
    by_cases hyz:x<z
    · simp [hyz]
    by_cases hzy:z<x
    · simp [hyz,hzy]at h2
    simp only [hyz,hzy,if_false]at h2 ⊢
    exact cmpB_trans a b c h1 h2
theorem cmpB_good:GoodCmp Lib.compareBytes:=⟨cmpB_eq,cmpB_anti,cmpB_trans⟩
def cmpBool(x y:Bool):Int:=cmpI (if x then 1 else 0) (if y then 1 else 0)
theorem cmpBool_good:GoodCmp cmpBool where
  eq x y:=by cases x<;>cases y<;>decide
  anti x y:=by cases x<;>cases y<;>decide
  trans x y z:=by cases x<;>cases y<;>cases z<;>decide
theorem lt_dec{k n:Nat}(h:k<n):decide (((k:Nat):Int)<((n:Nat):Int))=true:=decide_eq_true (by omega)
end Go.Proofs.YtamgjehhjkgelaaGreatDoor
end

noncomputable section
namespace Go.Proofs.YtamgjehhjkgelaaGreatDoor
open Go Go.E Go.Sort
theorem B8_(x y:Int):A7_ x y=some (cmpI x y):=by
  unfold A7_ El_ cmpI
  simp only [bnd,Option.bind_some,ne_eq,not_true_eq_false,decide_false,iteO_false]
  by_cases h:x<y
  · simp [h]
  by_cases h':y<x<;>simp [h,h']
theorem compareU_eq(x y:Nat):compareU x y=some (cmpN x y):=by
  unfold compareU isNaNU cmpN
  simp only [bnd,Option.bind_some,ne_eq,not_true_eq_false,decide_false,iteO_false]
  by_cases h:x<y
  · simp [h]
  by_cases h':y<x<;>simp [h,h']
theorem C5_(x y:List UInt8):B0_ x y=some (Lib.compareBytes x y):=rfl
def orL:List Int→Int
  |[]=>0
  |a::l=>corI a (orL l)
theorem Hb_(l:List Int): ∀m k,l.length=k+m→iter (fun q:Nat=>B9_ l q) k=some (orL (l.drop k)):=by
  intro m
  induction m with
  |zero=>
    intro k hk
    refine iter_done ?_
    rw [List.drop_of_length_le (by omega)]
    simp only [B9_,decide_eq_false (show ¬ ((k:Nat):Int)<((l.length:Nat):Int) by omega),iteO_false];rfl
  |succ m ih=>
    intro k hk
    have hlt:k<l.length:=by omega
    have hd:l.drop k=nth l k 0::l.drop (k+1):=by
      rw [List.drop_eq_getElem_cons hlt]
      have:=getD_some l hlt 0
      rw [List.getElem?_eq_getElem hlt,Option.some.injEq]at this
      rw [this]
    rw [hd,orL,corI]
    by_cases h:nth l k 0≠0
    · rw [if_pos h]
      refine iter_done ?_
      simp only [B9_,decide_eq_true (show ((k:Nat):Int)<((l.length:Nat):Int) by omega),iteO_true,decide_eq_true h];rfl
    rw [if_neg h]
    refine iter_next (s':=k+1) ?_ (ih (k+1) (by omega))
    simp only [B9_,decide_eq_true (show ((k:Nat):Int)<((l.length:Nat):Int) by omega),iteO_true,decide_eq_false h];rfl
theorem Gd_(l:List Int):E4_ l=some (orL l):=by
  unfold E4_;rw [Hb_ l l.length 0 (by omega),List.drop_zero]
def cmpTip(x y:Tip):Int:=corI (cmpI x.state y.state) (corI (Lib.compareBytes x.out y.out) 0)
theorem compareTips_eq(x y:Tip):Ct_ x y=some (cmpTip x y):=by
  unfold Ct_
  rw [bnd_some (B8_ _ _),bnd_some (C5_ _ _),bnd_some (Gd_ _)];rfl
theorem corI_zero(a:Int):corI a 0=a:=by unfold corI;split<;>omega
theorem cmpTip_good:GoodCmp cmpTip:=by
  have:=GoodCmp.lex cmpI_good cmpB_good Tip.state Tip.out (fun x y h1 h2=>by cases x;cases y;simp_all)
  have e:cmpTip=fun x y=>corI (cmpI x.state y.state) (Lib.compareBytes x.out y.out):=by
    funext x y;unfold cmpTip;rw [corI_zero]
  rw [e];exact this
def cmpSet(s t:BSet):Int:=corI (cmpN s.a t.a) (corI (cmpN s.b t.b) (corI (cmpN s.c t.c) (cmpN s.d t.d)))
theorem compareUs_four(a b c d a' b' c' d':Nat):compareUs [a,b,c,d] [a',b',c',d']=some (corI (cmpN a a') (corI (cmpN b b') (corI (cmpN c c') (cmpN d d')))):=by
  have st: ∀(k x y:Nat),k<4→nth [a,b,c,d] k 0=x→nth [a',b',c',d'] k 0=y→(cmpN x y≠0→iter (fun q:Nat=>compareUs_b1 [a,b,c,d] [a',b',c',d'] q) k=some (cmpN x y))∧(∀r,cmpN x y=0→iter (fun q:Nat=>compareUs_b1 [a,b,c,d] [a',b',c',d'] q) (k+1)=some r→iter (fun q:Nat=>compareUs_b1 [a,b,c,d] [a',b',c',d'] q) k=some r):=by
    intro k x y hk hx hy
    have e1:((k:Nat):Int)<(([a,b,c,d].length:Nat):Int):=by simp;omega
    have e2: ¬ (([a',b',c',d'].length:Nat):Int)≤((k:Nat):Int):=by simp;omega
    refine ⟨fun h=>iter_done ?_,fun r h hr=>iter_next (s':=k+1) ?_ hr⟩
    · simp only [compareUs_b1,decide_eq_true e1,iteO_true,decide_eq_false e2,iteO_false]
      rw [grd_mk (by simp;omega),hx,hy,bnd_some (compareU_eq _ _),decide_eq_true h];rfl
    simp only [compareUs_b1,decide_eq_true e1,iteO_true,decide_eq_false e2,iteO_false]
    rw [grd_mk (by simp;omega),hx,hy,bnd_some (compareU_eq _ _),h];rfl
  have fi:iter (fun q:Nat=>compareUs_b1 [a,b,c,d] [a',b',c',d'] q) 4=some 0:=iter_done (by simp [compareUs_b1])
  have go: ∀(k x y:Nat) (r:Int),k<4→nth [a,b,c,d] k 0=x→nth [a',b',c',d'] k 0=y→iter (fun q:Nat=>compareUs_b1 [a,b,c,d] [a',b',c',d'] q) (k+1)=some r→iter (fun q:Nat=>compareUs_b1 [a,b,c,d] [a',b',c',d'] q) k=some (corI (cmpN x y) r):=by
    intro k x y r hk hx hy hr
    obtain ⟨h1,h2⟩:=st k x y hk hx hy
    by_cases h:cmpN x y=0
    · rw [show corI (cmpN x y) r=r from by simp [corI,h]];exact h2 r h hr
    rw [show corI (cmpN x y) r=cmpN x y from by simp [corI,h]];exact h1 h
  have h3:=go 3 d d' 0 (by omega) rfl rfl fi
  rw [corI_zero]at h3
  exact go 0 a a' _ (by omega) rfl rfl (go 1 b b' _ (by omega) rfl rfl (go 2 c c' _ (by omega) rfl rfl h3))
theorem cmpSet_good:GoodCmp cmpSet:=by
  have h1:=GoodCmp.lex (α:=Nat×Nat) cmpN_good cmpN_good Prod.fst Prod.snd (fun x y h1 h2=>Prod.ext h1 h2)
  have h2:=GoodCmp.lex (α:=Nat×Nat×Nat) cmpN_good h1 Prod.fst Prod.snd (fun x y h1 h2=>Prod.ext h1 h2)
  have h3:=GoodCmp.lex (α:=BSet) cmpN_good h2 BSet.a (fun s=>(s.b,s.c,s.d)) (fun x y h1 h2=>by
    cases x;cases y;simp_all)
  exact h3
def cmpArc(x y:Arc):Int:=corI (cmpI x.frm y.frm) (corI (cmpI x.to y.to) (corI (cmpSet x.set y.set) (corI (Lib.compareBytes x.out y.out) (corI (cmpBool x.copy y.copy) 0))))
theorem F1_(b:Bool):D4_ b=some (if b then 1 else 0):=by cases b<;>rfl
theorem compareArcs_eq(x y:Arc):Cx_ x y=some (cmpArc x y):=by
  unfold Cx_
  rw [bnd_some (B8_ _ _),bnd_some (B8_ _ _),bnd_some (compareUs_four ..),bnd_some (C5_ _ _),bnd_some (F1_ _),bnd_some (F1_ _),bnd_some (B8_ _ _),bnd_some (Gd_ _)];rfl
theorem cmpArc_good:GoodCmp cmpArc:=by
  have h1:=GoodCmp.lex (α:=List UInt8×Bool) cmpB_good cmpBool_good Prod.fst Prod.snd (fun x y h1 h2=>Prod.ext h1 h2)
  have h2:=GoodCmp.lex (α:=BSet×List UInt8×Bool) cmpSet_good h1 Prod.fst Prod.snd (fun x y h1 h2=>Prod.ext h1 h2)
  have h3:=GoodCmp.lex (α:=Int×BSet×List UInt8×Bool) cmpI_good h2 Prod.fst Prod.snd (fun x y h1 h2=>Prod.ext h1 h2)
  have h4:=GoodCmp.lex (α:=Arc) cmpI_good h3 Arc.frm (fun s=>(s.to,s.set,s.out,s.copy)) (fun x y h1 h2=>by
    cases x;cases y;simp_all)
  have e:cmpArc=fun x y=>corI (cmpI x.frm y.frm) (corI (cmpI x.to y.to) (corI (cmpSet x.set y.set) (corI (Lib.compareBytes x.out y.out) (cmpBool x.copy y.copy)))):=by
    funext x y;unfold cmpArc;rw [corI_zero]
  rw [e];exact h4
end Go.Proofs.YtamgjehhjkgelaaGreatDoor
end

noncomputable section
namespace Go.Proofs.YtamgjehhjkgelaaGreatDoor
open Go Go.E
instance:Inhabited Tip:=⟨Tip.zero⟩
instance:Inhabited Arc:=⟨Arc.zero⟩
theorem Ho_{a:Option Addr}{c:Nat}{l:List (List UInt8)}:Con Tryz.prog 64 #[.slice a l.length c,.func (.func 32) #[] #[]] σ [Res.rowS 9 1 eS_ (.slice a l.length c) l] (SortP 9 1 eS_ a c l (sortL Lib.compareBytes l) σ):=
  Con.sort1 (enc:=keyS) layS layS0 rfl (fun _=>rfl) (fun _=>rfl) cmpB_good.total (fun args w=>run_callFunc (by kernel_rfl) args w) (fun x y τ=>Cs_ (C5_ x y))
theorem Hr_{a:Option Addr}{c:Nat}{l:List Tip}:Con Tryz.prog 68 #[.slice a l.length c,.func (.func 58) #[] #[]] σ [Res.rowS 43 2 encTip (.slice a l.length c) l] (SortP 43 2 encTip a c l (sortL cmpTip l) σ):=
  Con.sortK (k:=2) layT0 rfl Tryz.isAgg43 Tryz.sizeOf43 encTip_len encTip_one cmpTip_good.total (fun args w=>run_callFunc (by kernel_rfl) args w) (fun x y τ=>F8_ (compareTips_eq x y))
theorem Ht_{a:Option Addr}{c:Nat}{l:List Arc}:Con Tryz.prog 95 #[.slice a l.length c,.func (.func 60) #[] #[]] σ [Res.rowS 66 8 encArc (.slice a l.length c) l] (SortP 66 8 encArc a c l (sortL cmpArc l) σ):=
  Con.sortK (k:=8) layA0 rfl Tryz.isAgg66 Tryz.sizeOf66 encArc_len encArc_one cmpArc_good.total (fun args w=>run_callFunc (by kernel_rfl) args w) (fun x y τ=>F9_ (compareArcs_eq x y))
end Go.Proofs.YtamgjehhjkgelaaGreatDoor
end

noncomputable section
namespace Go.Proofs.YtamgjehhjkgelaaGreatDoor
open Go Go.E Go.E.OpVal Go.E.OpOk Go.Proofs.Tryz
theorem ag31:aggOf Tryz.prog 31=some false:=by kernel_rfl
theorem by23:byOf Tryz.prog 23=some 24:=by kernel_rfl
theorem by31:byOf Tryz.prog 31=some 24:=by kernel_rfl
theorem by9:byOf Tryz.prog 9=some 16:=by kernel_rfl
theorem eg43:Tryz.prog.eqGuardType Tryz.prog.depth 43=false:=by kernel_rfl
theorem eg66:Tryz.prog.eqGuardType Tryz.prog.depth 66=false:=by kernel_rfl
theorem es43(x y:Tip):Go.E.EqAt Tryz.prog 2 43 (.agg (Go.E.encTip x).toArray) (.agg (Go.E.encTip y).toArray) (decide (x=y)):=
 (EqAt.struct (ts:=[(false,3,0),(false,9,1)]) (by kernel_rfl) (by kernel_rfl) (by kernel_rfl) (EqC.one (by kernel_rfl) rfl rfl (EqAt.int underlying3 x.state y.state) (EqC.one (by kernel_rfl) rfl rfl (EqAt.str underlying9 x.out y.out) EqC.nil))).of (by rw [Bool.eq_iff_iff];cases x;cases y;simp)
theorem es66(x y:Arc):Go.E.EqAt Tryz.prog 3 66 (.agg (Go.E.encArc x).toArray) (.agg (Go.E.encArc y).toArray) (decide (x=y)):=
 (EqAt.struct (ts:=[(false,3,0),(false,3,1),(false,55,2),(false,9,6),(false,4,7)]) (by kernel_rfl) (by kernel_rfl) (by kernel_rfl) (EqC.one (by kernel_rfl) rfl rfl (EqAt.int underlying3 x.frm y.frm |>.up (by decide)) (EqC.one (by kernel_rfl) rfl rfl (EqAt.int underlying3 x.to y.to |>.up (by decide)) (EqC.agg (s:=4) (us:=Go.E.setA x.set) (vs:=Go.E.setA y.set) (by kernel_rfl) (by kernel_rfl) rfl rfl (EqAt.set underlying55 underlying53 (by kernel_rfl) (by kernel_rfl) x.set y.set) (EqC.one (by kernel_rfl) rfl rfl (EqAt.str underlying9 x.out y.out |>.up (by decide)) (EqC.one (by kernel_rfl) rfl rfl (EqAt.bool underlying4 x.copy y.copy |>.up (by decide)) EqC.nil)))))).of (by rw [Bool.eq_iff_iff];cases x;cases y;simp)
theorem pf21:plainF Tryz.prog 21=true:=by kernel_rfl
theorem pf30:plainF Tryz.prog 30=true:=by kernel_rfl
theorem pf31:plainF Tryz.prog 31=true:=by kernel_rfl
theorem pf57:plainF Tryz.prog 57=true:=by kernel_rfl
theorem pf59:plainF Tryz.prog 59=true:=by kernel_rfl
theorem pf63:plainF Tryz.prog 63=true:=by kernel_rfl
theorem pf64:plainF Tryz.prog 64=true:=by kernel_rfl
theorem pf65:plainF Tryz.prog 65=true:=by kernel_rfl
theorem pf68:plainF Tryz.prog 68=true:=by kernel_rfl
theorem pf90:plainF Tryz.prog 90=true:=by kernel_rfl
theorem pf91:plainF Tryz.prog 91=true:=by kernel_rfl
theorem pf94:plainF Tryz.prog 94=true:=by kernel_rfl
theorem pf95:plainF Tryz.prog 95=true:=by kernel_rfl
theorem pf96:plainF Tryz.prog 96=true:=by kernel_rfl
theorem sz31:szOf Tryz.prog 31=some 1:=by kernel_rfl
theorem sz9:szOf Tryz.prog 9=some 1:=by kernel_rfl
theorem ze23:zeroOf Tryz.prog 23=some (.slice none 0 0):=by kernel_rfl
theorem ze31:zeroOf Tryz.prog 31=some (.slice none 0 0):=by kernel_rfl
theorem ze9:zeroOf Tryz.prog 9=some (.string ByteArray.empty):=by kernel_rfl
theorem Hk_{a:Option Addr}{c:Nat}{l:List (List UInt8)}(hl:RS σ 1 eS_ (.slice a l.length c) l)(hsz:l.length * 16≤140737488355328):
  Con Tryz.prog 63 #[.slice a l.length c] σ [] (RowP 9 1 eS_ l σ):=by
 have hb:=hl.rv.big
 refine Con.mk (n:=8) Tryz.func63 z z z (fun w0=> ?_)
 refine TC.a (TL.s z z (TL.nilS 9 1 eS_ (TL.en (TC.seq (TC.a (TL.s z z (TL.w z (eqlNilSl z underlying31 z z) (TL.en (TC.cond z (fun h2=> ?_) (fun h2=> ?_))))))))))
 ·refine TC.a (TL.s z z (TL.nilS 9 1 eS_ (TL.en (TC.ret (S.r ?_)))))
  cases a with
  |some _=>simp at h2
  |none=>
   obtain rfl:=hl.none_nil
   exact ret1R z z
 refine TC.skip (S.n (TC.a (TL.op z (lit0 (enc:=eS_) z z underlying31 sz9 z z (fun a4 c5=> ?_)))))
 refine TL.s z z (TL.op z (appendS z z underlying31 sz9 by9 ze9 z z (by decide) z z z (.inl hl) (by simpa using hsz) (by decide) (fun a7 c8=> ?_)))
 exact TL.s z z (TL.en (TC.ret (ret1R z z)))
def Eh_(k125:Nat)(l128:List (List UInt8))(k130:Nat):Option (((List (List UInt8))×Nat×Nat)⊕((Nat)⊕((List (List UInt8))))):=
 nxt (l128,k130,(k125+1))
def Eg_(x0:List (List UInt8))(k105:Nat)(l122:List (List UInt8))(k124:Nat)(k125:Nat):Option (((List (List UInt8))×Nat×Nat)⊕((Nat)⊕((List (List UInt8))))):=
 iteO (decide (((k125:Nat):Int)<(((x0.length - k105):Nat):Int))) (grd (k125<(x0.length - k105)) (grd (0≤(IntKind.i64.wrap (((k125:Nat):Int) - 1))∧(IntKind.i64.wrap (((k125:Nat):Int) - 1))<((x0.length - k105):Nat)) (iteO (decide ((nth l122 (k105+k125) ([]:List UInt8))≠(nth l122 (k105+(IntKind.i64.wrap (((k125:Nat):Int) - 1)).toNat) ([]:List UInt8)))) (grd (k125<(x0.length - k105)) (grd (k124<l122.length) (Eh_ k125 (l122.set k124 (nth l122 (k105+k125) ([]:List UInt8))) (k124+1)))) (Eh_ k125 l122 k124)))) (fin (grd (k124≤x0.length) (grd (k124≤(l122.take k124++List.replicate (l122.length - k124) ([]:List UInt8)).length) (fin (some ((l122.take k124++List.replicate (l122.length - k124) ([]:List UInt8)).take k124))))))
def Ef_(x0:List (List UInt8))(k105:Nat):Option ((Nat)⊕((List (List UInt8)))):=
 iteO (decide (((k105:Nat):Int)<((x0.length:Nat):Int))) (grd (0≤(IntKind.i64.wrap (((k105:Nat):Int) - 1))∧(IntKind.i64.wrap (((k105:Nat):Int) - 1))<(x0.length:Int)) (iteO (decide ((nth x0 k105 ([]:List UInt8))=(nth x0 ((IntKind.i64.wrap (((k105:Nat):Int) - 1)).toNat) ([]:List UInt8)))) (grd (k105≤x0.length) (iter (fun q:(List (List UInt8))×Nat×Nat=>Eg_ x0 k105 q.1 q.2.1 q.2.2) (x0,k105,1))) (nxt (k105+1)))) (fin (some x0))
def compactS(x0:List (List UInt8)):Option ((List (List UInt8))):=
 iteO (decide (((x0.length:Nat):Int)<2)) (some x0) (iter (fun q:Nat=>Ef_ x0 q) 1)
theorem Gw_{x0:List (List UInt8)}{r:(List (List UInt8))}(hh:compactS x0=some r):
  Con Tryz.prog 65 #[.slice a0_1 x0.length c0_2] σ [Res.rowS 9 1 eS_ (.slice a0_1 x0.length c0_2) x0] (fun v σ' H'=> ∃a1 c1,v= .slice a1 r.length c1∧σ=σ'∧H'=[Res.rowS 9 1 eS_ (.slice a1 r.length c1) r]):=by
 dsimp only [compactS]at hh
 refine Con.mk (n:=61) Tryz.func65 z z z (fun w0=> ?_)
 refine TC.a (TL.s z z (TL.en (TC.seq (TC.a (TL.s z z (TL.w z (lenC z underlying31 z) (TL.w z (OpVal.lss z z z) (TL.en (TC.cD z hh (fun h102 hh=> ?_) (fun h102 hh=> ?_))))))))))
 ·refine TC.a (TL.s z z (TL.s z z (TL.en (TC.ret (S.r ?_)))))
  obtain rfl:=so hh
  exact ro [Res.rowS 9 1 eS_ (.slice a0_1 x0.length c0_2) x0] z (RVs.tmp z RVs.nil) ⟨a0_1,c0_2,z,z,z⟩
 refine TC.skip (S.n (TC.seq (TC.a (TL.i z z (TL.en (TC.block (TC.loopG (α:=(Nat)×(Unit)) (rgs [(2,4),(10,50)]) (fun g=>[(3,.int .i64 ((g.1:Nat):Int))]) (fun g=>[Res.rowS 9 1 eS_ (.slice a0_1 x0.length c0_2) x0]) (fun g=>σ) (fun g=>iter (fun q:Nat=>Ef_ x0 q) g.1=some r) (fun g=>rounds (fun q:Nat=>Ef_ x0 q) g.1) (1,()) (Sub.pre 1 z) z (by repeat (first|exact trivial|refine ⟨z,?_⟩)) hh (fun g1 j1 hg1=> ?_))))))))
 obtain ⟨k105,_⟩:=g1
 have hh:=hg1;clear hg1
 try dsimp only
 obtain ⟨z1,hh,hR1⟩:=iter_e hh
 dsimp only [Ef_]at hh
 refine TC.isSl (i:=0) z (fun _ hb106 _=> ?_)
 refine TC.seq (TC.a (TL.i z z (TL.s z z (TL.w z (lenC z underlying31 z) (TL.w z (OpVal.lss z z z) (TL.en (TC.cD z hh (fun h107 hh=> ?_) (fun h107 hh=> ?_))))))))
 ·refine TC.skip (S.n (TC.seq (TC.block (TC.seq ?_))))
  have u19:=grd_c hh
  replace hh:=grd_t hh
  refine TC.draw [] (by kernel_rfl) (TA.a 0 z (moveSl (.inl z) z) z (TA.a 1 z (moveI (.inl z) z) z (TA.isSl (i:=0) z (fun hs110 _ _=> ?_))))
  refine TA.b 2 z (indexN z underlying31 sz9 z z hs110 (by omega)) z (TA.b 3 z (loadO1 ([]:List UInt8) z ag9 z (q:=0) z eSl_ (by omega) z) z (TA.a 4 z (moveSl (.inl z) z) z (TA.a 5 z (moveI (.inl z) z) z (TA.a 6 z (subW z z z) z (TA.isSl (i:=0) z (fun hs111 _ _=> ?_))))))
  refine TA.b 7 z (OpVal.index z underlying31 sz9 z z hs111 u19.1 u19.2) z (TA.b 8 z (loadO1 ([]:List UInt8) z ag9 z (q:=0) z eSl_ (by omega) z) z (TA.a 9 z (eqlBs z z z) z (TA.dn (S.n (TC.cD z hh (fun h112 hh=> ?_) (fun h112 hh=> ?_))))))
  ·refine TC.a (TL.s z z (TL.i z z ?_))
   have u24:=grd_c hh
   replace hh:=grd_t hh
   refine TL.isSl (i:=0) z (fun hs113 _ _=> ?_)
   obtain ⟨a113,c113,hv113,ho113⟩:=vw_of (k:=k105) (size:=1) hs113 (by omega)
   refine TL.w z (ho113 z underlying31 sz9 z z) (TL.s z z (TL.en (TC.seq (TC.a (TL.i z z (TL.en (TC.block (TC.loopG (α:=((List (List UInt8))×Nat×Nat)×(Unit)) (rgs [(3,1),(5,1),(29,25)]) (fun g=>[(3,.int .i64 ((g.1.2.1:Nat):Int)),(5,.int .i64 ((g.1.2.2:Nat):Int))]) (fun g=>[Res.rowS 9 1 eS_ (.slice a0_1 x0.length c0_2) g.1.1]) (fun g=>σ) (fun g=>iter (fun q:(List (List UInt8))×Nat×Nat=>Eg_ x0 k105 q.1 q.2.1 q.2.2) g.1=some z1∧g.1.1.length=x0.length) (fun g=>rounds (fun q:(List (List UInt8))×Nat×Nat=>Eg_ x0 k105 q.1 q.2.1 q.2.2) g.1) ((x0,k105,1),()) (Sub.pre 1 z) z (by repeat (first|exact trivial|refine ⟨z,?_⟩)) ⟨hh,z⟩ (fun g2 j2 hg2=> ?_)))))))))
   obtain ⟨⟨l122,k124,k125⟩,_⟩:=g2
   obtain ⟨hh,hn123⟩:=hg2
   try dsimp only at hn123 ⊢
   obtain ⟨z2,hh,hR2⟩:=iter_e hh
   dsimp only [Eg_]at hh
   have hn123b:=hn123
   refine TC.isSl (i:=0) z (fun _ hb126 _=> ?_)
   refine TC.seq (TC.a (TL.i z z (TL.s z z (TL.w z (lenC z underlying31 z) (TL.w z (OpVal.lss z z z) (TL.en (TC.cD z hh (fun h127 hh=> ?_) (fun h127 hh=> ?_))))))))
   ·refine TC.skip (S.n (TC.cutG (α:=((List (List UInt8))×Nat)×(Unit)) (rgs [(3,1),(35,19)]) (fun g=>[(3,.int .i64 ((g.1.2:Nat):Int))]) (fun g=>[Res.rowS 9 1 eS_ (.slice a0_1 x0.length c0_2) g.1.1]) (fun g=>σ) (fun g=>Eh_ k125 g.1.1 g.1.2=some z2∧g.1.1.length=x0.length) ?_ (fun g j hg=> ?_)))
    ·skip
     refine TC.block (TC.seq ?_)
     have u33:=grd_c hh
     replace hh:=grd_t hh
     have u38:=grd_c hh
     replace hh:=grd_t hh
     refine TC.draw [] (by kernel_rfl) (TA.a 0 z (moveSl (.inl z) z) z (TA.a 1 z (moveI (.inl z) z) z (TA.b 2 z (elVw hv113 (by omega) (indexN z underlying31 sz9 z z hv113.sl (by omega))) z (TA.b 3 z (loadO1 ([]:List UInt8) z ag9 z (q:=0) z eSl_ (by omega) z) z (TA.a 4 z (moveSl (.inl z) z) z (TA.a 5 z (moveI (.inl z) z) z (TA.a 6 z (subW z z z) z (TA.b 7 z (elVw hv113 (by omega) (OpVal.index z underlying31 sz9 z z hv113.sl u38.1 u38.2)) z (TA.b 8 z (loadO1 ([]:List UInt8) z ag9 z (q:=0) z eSl_ (by omega) z) z (TA.a 9 z (neqBs z z z) z (TA.dn (S.n (TC.cD z hh (fun h131 hh=> ?_) (fun h131 hh=> ?_))))))))))))))
     ·refine TC.a (TL.s z z (TL.i z z (TL.s z z (TL.i z z ?_))))
      have u45:=grd_c hh
      replace hh:=grd_t hh
      refine TL.w z (elVw hv113 (by omega) (indexN z underlying31 sz9 z z hv113.sl (by omega))) (TL.w z (loadO1 ([]:List UInt8) z ag9 z (q:=0) z eSl_ (by omega) z) ?_)
      have u47:=grd_c hh
      replace hh:=grd_t hh
      refine TL.isSl (i:=0) z (fun hs132 _ _=> ?_)
      refine TL.w z (indexN z underlying31 sz9 z z hs132 (by omega)) ?_
      have hn133:(l122.set k124 (nth l122 (k105+k125) ([]:List UInt8))).length=x0.length:=by rw [List.length_set];exact hn123
      refine TL.op z (storeS (nth l122 (k105+k125) ([]:List UInt8)) z sz9 z z z z eSl_ eSo_ (by omega) (by omega) ?_)
      exact TL.en (TC.region (TL.i z z (TL.w z (OpVal.succ z z z (by omega)) (TL.i z z (TL.nil (B.n (S.n (cf (((l122.set k124 (nth l122 (k105+k125) ([]:List UInt8))),(k124+1)),()) ⟨hh,hn133⟩ (Sub.pre 1 z)))))))))
     exact TC.skip (B.n (S.n (cf ((l122,k124),()) ⟨hh,hn123⟩ (Sub.pre 1 z))))
    skip
    obtain ⟨⟨l128,k130⟩,_⟩:=g
    obtain ⟨hh,hn129⟩:=hg
    try dsimp only at hn129 ⊢
    dsimp only [Eh_]at hh
    have hn129b:=hn129
    refine TC.isSl (i:=0) z (fun _ hb134 _=> ?_)
    refine TC.region (TL.i z z (TL.w z (OpVal.succ z z z (by omega)) (TL.i z z (TL.en ?_))))
    obtain ⟨hh,hlt135⟩:=nxt_x hR2 hh
    exact lf ((l128,k130,(k125+1)),()) hlt135 ⟨hh,hn129⟩ (Sub.pre 1 z)
   refine TC.exit (S.x (S.x ?_))
   replace hh:=fin_x hR2 hh
   refine TC.exitHere (S.n (TC.a (TL.s z z (TL.i z z ?_))))
   have u57:=grd_c hh
   replace hh:=grd_t hh
   refine TL.isSl (i:=0) z (fun hs136 _ _=> ?_)
   rw [hn123]at hs136
   obtain ⟨a136,c136,hv136,ho136⟩:=vw_of (k:=k124) (size:=1) hs136 (by omega)
   refine TL.w z (ho136 z underlying31 sz9 z z) ?_
   have hn137:(l122.take k124++List.replicate (l122.length - k124) ([]:List UInt8)).length=x0.length:=by simp only [List.length_append,List.length_take,List.length_replicate];try simp only [List.length_replicate]at *;omega
   refine TL.op z (clearV (k:=k124) ([]:List UInt8) z underlying31 ze9 z z hv136 (by omega) (by omega) eSl_ (by decide) z eSo_ ?_)
   refine TL.en (TC.a (TL.s z z (TL.i z z ?_)))
   rw [←hn137]
   have u61:=grd_c hh
   replace hh:=grd_t hh
   refine TL.op z (cutS z underlying31 sz9 z z z z z (by omega) eSl_ ?_)
   refine TL.s z z (TL.en (TC.ret (B.r (S.r (S.r ?_)))))
   replace hh:=fin_x hR1 hh
   refine B.r (S.r ?_)
   obtain rfl:=so hh
   exact ro [Res.rowS 9 1 eS_ (.slice a0_1 ((l122.take k124++List.replicate (l122.length - k124) ([]:List UInt8)).take k124).length c0_2) ((l122.take k124++List.replicate (l122.length - k124) ([]:List UInt8)).take k124)] z (RVs.tmp z RVs.nil) ⟨a0_1,c0_2,z,z,z⟩
  refine TC.skip (B.n (S.n (TC.region (TL.i z z (TL.w z (OpVal.succ z z z (by omega)) (TL.i z z (TL.en ?_)))))))
  obtain ⟨hh,hlt138⟩:=nxt_x hR1 hh
  exact lf ((k105+1),()) hlt138 hh (Sub.pre 1 z)
 refine TC.exit (S.x (S.x ?_))
 replace hh:=fin_x hR1 hh
 refine TC.exitHere (S.n (TC.a (TL.s z z (TL.s z z (TL.en (TC.ret ?_))))))
 obtain rfl:=so hh
 exact ro [Res.rowS 9 1 eS_ (.slice a0_1 x0.length c0_2) x0] z (RVs.tmp z RVs.nil) ⟨a0_1,c0_2,z,z,z⟩
theorem Hg_{a:Option Addr}{c:Nat}{l:List Tip}(hl:RS σ 2 encTip (.slice a l.length c) l)(hsz:l.length * 24≤140737488355328):
  Con Tryz.prog 90 #[.slice a l.length c] σ [] (RowP 43 2 encTip l σ):=by
 have hb:=hl.rv.big
 refine Con.mk (n:=8) Tryz.func90 z z z (fun w0=> ?_)
 refine TC.a (TL.s z z (TL.nilS 43 2 encTip (TL.en (TC.seq (TC.a (TL.s z z (TL.w z (eqlNilSl z underlying22 z z) (TL.en (TC.cond z (fun h2=> ?_) (fun h2=> ?_))))))))))
 ·refine TC.a (TL.s z z (TL.nilS 43 2 encTip (TL.en (TC.ret (S.r ?_)))))
  cases a with
  |some _=>simp at h2
  |none=>
   obtain rfl:=hl.none_nil
   exact ret1R z z
 refine TC.skip (S.n (TC.a (TL.op z (lit0 (enc:=encTip) z z underlying22 sz43 z z (fun a4 c5=> ?_)))))
 refine TL.s z z (TL.op z (appendS z z underlying22 sz43 by43 ze43 z z (by decide) z z z (.inl hl) (by simpa using hsz) (by decide) (fun a7 c8=> ?_)))
 exact TL.s z z (TL.en (TC.ret (ret1R z z)))
def Cp_(k125:Nat)(l128:List Tip)(k130:Nat):Option (((List Tip)×Nat×Nat)⊕((Nat)⊕((List Tip)))):=
 nxt (l128,k130,(k125+1))
def Ch_(x0:List Tip)(k105:Nat)(l122:List Tip)(k124:Nat)(k125:Nat):Option (((List Tip)×Nat×Nat)⊕((Nat)⊕((List Tip)))):=
 iteO (decide (((k125:Nat):Int)<(((x0.length - k105):Nat):Int))) (grd (k125<(x0.length - k105)) (grd (0≤(IntKind.i64.wrap (((k125:Nat):Int) - 1))∧(IntKind.i64.wrap (((k125:Nat):Int) - 1))<((x0.length - k105):Nat)) (iteO (decide (¬ ((nth l122 (k105+k125) Tip.zero)=(nth l122 (k105+(IntKind.i64.wrap (((k125:Nat):Int) - 1)).toNat) Tip.zero)))) (grd (k125<(x0.length - k105)) (grd (k124<l122.length) (Cp_ k125 (l122.set k124 (nth l122 (k105+k125) Tip.zero)) (k124+1)))) (Cp_ k125 l122 k124)))) (fin (grd (k124≤x0.length) (grd (k124≤(l122.take k124++List.replicate (l122.length - k124) Tip.zero).length) (fin (some ((l122.take k124++List.replicate (l122.length - k124) Tip.zero).take k124))))))
def Cl_(x0:List Tip)(k105:Nat):Option ((Nat)⊕((List Tip))):=
 iteO (decide (((k105:Nat):Int)<((x0.length:Nat):Int))) (grd (0≤(IntKind.i64.wrap (((k105:Nat):Int) - 1))∧(IntKind.i64.wrap (((k105:Nat):Int) - 1))<(x0.length:Int)) (iteO (decide ((nth x0 k105 Tip.zero)=(nth x0 ((IntKind.i64.wrap (((k105:Nat):Int) - 1)).toNat) Tip.zero))) (grd (k105≤x0.length) (iter (fun q:(List Tip)×Nat×Nat=>Ch_ x0 k105 q.1 q.2.1 q.2.2) (x0,k105,1))) (nxt (k105+1)))) (fin (some x0))
def compactT(x0:List Tip):Option ((List Tip)):=
 iteO (decide (((x0.length:Nat):Int)<2)) (some x0) (iter (fun q:Nat=>Cl_ x0 q) 1)
theorem Gy_{x0:List Tip}{r:(List Tip)}(hh:compactT x0=some r):
  Con Tryz.prog 91 #[.slice a0_1 x0.length c0_2] σ [Res.rowS 43 2 encTip (.slice a0_1 x0.length c0_2) x0] (fun v σ' H'=> ∃a1 c1,v= .slice a1 r.length c1∧σ=σ'∧H'=[Res.rowS 43 2 encTip (.slice a1 r.length c1) r]):=by
 dsimp only [compactT]at hh
 refine Con.mk (n:=61) Tryz.func91 z z z (fun w0=> ?_)
 refine TC.a (TL.s z z (TL.en (TC.seq (TC.a (TL.s z z (TL.w z (lenC z underlying22 z) (TL.w z (OpVal.lss z z z) (TL.en (TC.cD z hh (fun h102 hh=> ?_) (fun h102 hh=> ?_))))))))))
 ·refine TC.a (TL.s z z (TL.s z z (TL.en (TC.ret (S.r ?_)))))
  obtain rfl:=so hh
  exact ro [Res.rowS 43 2 encTip (.slice a0_1 x0.length c0_2) x0] z (RVs.tmp z RVs.nil) ⟨a0_1,c0_2,z,z,z⟩
 refine TC.skip (S.n (TC.seq (TC.a (TL.i z z (TL.en (TC.block (TC.loopG (α:=(Nat)×(Unit)) (rgs [(2,4),(10,50)]) (fun g=>[(3,.int .i64 ((g.1:Nat):Int))]) (fun g=>[Res.rowS 43 2 encTip (.slice a0_1 x0.length c0_2) x0]) (fun g=>σ) (fun g=>iter (fun q:Nat=>Cl_ x0 q) g.1=some r) (fun g=>rounds (fun q:Nat=>Cl_ x0 q) g.1) (1,()) (Sub.pre 1 z) z (by repeat (first|exact trivial|refine ⟨z,?_⟩)) hh (fun g1 j1 hg1=> ?_))))))))
 obtain ⟨k105,_⟩:=g1
 have hh:=hg1;clear hg1
 try dsimp only
 obtain ⟨z1,hh,hR1⟩:=iter_e hh
 dsimp only [Cl_]at hh
 refine TC.isSl (i:=0) z (fun _ hb106 _=> ?_)
 refine TC.seq (TC.a (TL.i z z (TL.s z z (TL.w z (lenC z underlying22 z) (TL.w z (OpVal.lss z z z) (TL.en (TC.cD z hh (fun h107 hh=> ?_) (fun h107 hh=> ?_))))))))
 ·refine TC.skip (S.n (TC.seq (TC.block (TC.seq ?_))))
  have u19:=grd_c hh
  replace hh:=grd_t hh
  refine TC.draw [] (by kernel_rfl) (TA.a 0 z (moveSl (.inl z) z) z (TA.a 1 z (moveI (.inl z) z) z (TA.isSl (i:=0) z (fun hs110 _ _=> ?_))))
  refine TA.b 2 z (indexN z underlying22 sz43 z z hs110 (by omega)) z (TA.b 3 z (loadOA Tip.zero z ag43 sz43 z (q:=0) z encTip_len (by omega) (by omega)) z (TA.a 4 z (moveSl (.inl z) z) z (TA.a 5 z (moveI (.inl z) z) z (TA.a 6 z (subW z z z) z (TA.isSl (i:=0) z (fun hs111 _ _=> ?_))))))
  refine TA.b 7 z (OpVal.index z underlying22 sz43 z z hs111 u19.1 u19.2) z (TA.b 8 z (loadOA Tip.zero z ag43 sz43 z (q:=0) z encTip_len (by omega) (by omega)) z (TA.a 9 z (eqlSt (p:=(nth x0 k105 Tip.zero)=(nth x0 ((IntKind.i64.wrap (((k105:Nat):Int) - 1)).toNat) Tip.zero)) z z z eg43 (es43 (nth x0 k105 Tip.zero) (nth x0 ((IntKind.i64.wrap (((k105:Nat):Int) - 1)).toNat) Tip.zero)) z) z (TA.dn (S.n (TC.cD z hh (fun h112 hh=> ?_) (fun h112 hh=> ?_))))))
  ·refine TC.a (TL.s z z (TL.i z z ?_))
   have u24:=grd_c hh
   replace hh:=grd_t hh
   refine TL.isSl (i:=0) z (fun hs113 _ _=> ?_)
   obtain ⟨a113,c113,hv113,ho113⟩:=vw_of (k:=k105) (size:=2) hs113 (by omega)
   refine TL.w z (ho113 z underlying22 sz43 z z) (TL.s z z (TL.en (TC.seq (TC.a (TL.i z z (TL.en (TC.block (TC.loopG (α:=((List Tip)×Nat×Nat)×(Unit)) (rgs [(3,1),(5,1),(29,25)]) (fun g=>[(3,.int .i64 ((g.1.2.1:Nat):Int)),(5,.int .i64 ((g.1.2.2:Nat):Int))]) (fun g=>[Res.rowS 43 2 encTip (.slice a0_1 x0.length c0_2) g.1.1]) (fun g=>σ) (fun g=>iter (fun q:(List Tip)×Nat×Nat=>Ch_ x0 k105 q.1 q.2.1 q.2.2) g.1=some z1∧g.1.1.length=x0.length) (fun g=>rounds (fun q:(List Tip)×Nat×Nat=>Ch_ x0 k105 q.1 q.2.1 q.2.2) g.1) ((x0,k105,1),()) (Sub.pre 1 z) z (by repeat (first|exact trivial|refine ⟨z,?_⟩)) ⟨hh,z⟩ (fun g2 j2 hg2=> ?_)))))))))
   obtain ⟨⟨l122,k124,k125⟩,_⟩:=g2
   obtain ⟨hh,hn123⟩:=hg2
   try dsimp only at hn123 ⊢
   obtain ⟨z2,hh,hR2⟩:=iter_e hh
   dsimp only [Ch_]at hh
   have hn123b:=hn123
   refine TC.isSl (i:=0) z (fun _ hb126 _=> ?_)
   refine TC.seq (TC.a (TL.i z z (TL.s z z (TL.w z (lenC z underlying22 z) (TL.w z (OpVal.lss z z z) (TL.en (TC.cD z hh (fun h127 hh=> ?_) (fun h127 hh=> ?_))))))))
   ·refine TC.skip (S.n (TC.cutG (α:=((List Tip)×Nat)×(Unit)) (rgs [(3,1),(35,19)]) (fun g=>[(3,.int .i64 ((g.1.2:Nat):Int))]) (fun g=>[Res.rowS 43 2 encTip (.slice a0_1 x0.length c0_2) g.1.1]) (fun g=>σ) (fun g=>Cp_ k125 g.1.1 g.1.2=some z2∧g.1.1.length=x0.length) ?_ (fun g j hg=> ?_)))
    ·skip
     refine TC.block (TC.seq ?_)
     have u33:=grd_c hh
     replace hh:=grd_t hh
     have u38:=grd_c hh
     replace hh:=grd_t hh
     refine TC.draw [] (by kernel_rfl) (TA.a 0 z (moveSl (.inl z) z) z (TA.a 1 z (moveI (.inl z) z) z (TA.b 2 z (elVw hv113 (by omega) (indexN z underlying22 sz43 z z hv113.sl (by omega))) z (TA.b 3 z (loadOA Tip.zero z ag43 sz43 z (q:=0) z encTip_len (by omega) (by omega)) z (TA.a 4 z (moveSl (.inl z) z) z (TA.a 5 z (moveI (.inl z) z) z (TA.a 6 z (subW z z z) z (TA.b 7 z (elVw hv113 (by omega) (OpVal.index z underlying22 sz43 z z hv113.sl u38.1 u38.2)) z (TA.b 8 z (loadOA Tip.zero z ag43 sz43 z (q:=0) z encTip_len (by omega) (by omega)) z (TA.a 9 z (neqSt (p:=(nth l122 (k105+k125) Tip.zero)=(nth l122 (k105+(IntKind.i64.wrap (((k125:Nat):Int) - 1)).toNat) Tip.zero)) z z z eg43 (es43 (nth l122 (k105+k125) Tip.zero) (nth l122 (k105+(IntKind.i64.wrap (((k125:Nat):Int) - 1)).toNat) Tip.zero)) z) z (TA.dn (S.n (TC.cD z hh (fun h131 hh=> ?_) (fun h131 hh=> ?_))))))))))))))
     ·refine TC.a (TL.s z z (TL.i z z (TL.s z z (TL.i z z ?_))))
      have u45:=grd_c hh
      replace hh:=grd_t hh
      refine TL.w z (elVw hv113 (by omega) (indexN z underlying22 sz43 z z hv113.sl (by omega))) (TL.w z (loadOA Tip.zero z ag43 sz43 z (q:=0) z encTip_len (by omega) (by omega)) ?_)
      have u47:=grd_c hh
      replace hh:=grd_t hh
      refine TL.isSl (i:=0) z (fun hs132 _ _=> ?_)
      refine TL.w z (indexN z underlying22 sz43 z z hs132 (by omega)) ?_
      have hn133:(l122.set k124 (nth l122 (k105+k125) Tip.zero)).length=x0.length:=by rw [List.length_set];exact hn123
      refine TL.op z (storeS (nth l122 (k105+k125) Tip.zero) z sz43 z z z z encTip_len encTip_one (by omega) (by omega) ?_)
      exact TL.en (TC.region (TL.i z z (TL.w z (OpVal.succ z z z (by omega)) (TL.i z z (TL.nil (B.n (S.n (cf (((l122.set k124 (nth l122 (k105+k125) Tip.zero)),(k124+1)),()) ⟨hh,hn133⟩ (Sub.pre 1 z)))))))))
     exact TC.skip (B.n (S.n (cf ((l122,k124),()) ⟨hh,hn123⟩ (Sub.pre 1 z))))
    skip
    obtain ⟨⟨l128,k130⟩,_⟩:=g
    obtain ⟨hh,hn129⟩:=hg
    try dsimp only at hn129 ⊢
    dsimp only [Cp_]at hh
    have hn129b:=hn129
    refine TC.isSl (i:=0) z (fun _ hb134 _=> ?_)
    refine TC.region (TL.i z z (TL.w z (OpVal.succ z z z (by omega)) (TL.i z z (TL.en ?_))))
    obtain ⟨hh,hlt135⟩:=nxt_x hR2 hh
    exact lf ((l128,k130,(k125+1)),()) hlt135 ⟨hh,hn129⟩ (Sub.pre 1 z)
   refine TC.exit (S.x (S.x ?_))
   replace hh:=fin_x hR2 hh
   refine TC.exitHere (S.n (TC.a (TL.s z z (TL.i z z ?_))))
   have u57:=grd_c hh
   replace hh:=grd_t hh
   refine TL.isSl (i:=0) z (fun hs136 _ _=> ?_)
   rw [hn123]at hs136
   obtain ⟨a136,c136,hv136,ho136⟩:=vw_of (k:=k124) (size:=2) hs136 (by omega)
   refine TL.w z (ho136 z underlying22 sz43 z z) ?_
   have hn137:(l122.take k124++List.replicate (l122.length - k124) Tip.zero).length=x0.length:=by simp only [List.length_append,List.length_take,List.length_replicate];try simp only [List.length_replicate]at *;omega
   refine TL.op z (clearV (k:=k124) Tip.zero z underlying22 ze43 z z hv136 (by omega) (by omega) encTip_len (by decide) z encTip_one ?_)
   refine TL.en (TC.a (TL.s z z (TL.i z z ?_)))
   rw [←hn137]
   have u61:=grd_c hh
   replace hh:=grd_t hh
   refine TL.op z (cutS z underlying22 sz43 z z z z z (by omega) encTip_len ?_)
   refine TL.s z z (TL.en (TC.ret (B.r (S.r (S.r ?_)))))
   replace hh:=fin_x hR1 hh
   refine B.r (S.r ?_)
   obtain rfl:=so hh
   exact ro [Res.rowS 43 2 encTip (.slice a0_1 ((l122.take k124++List.replicate (l122.length - k124) Tip.zero).take k124).length c0_2) ((l122.take k124++List.replicate (l122.length - k124) Tip.zero).take k124)] z (RVs.tmp z RVs.nil) ⟨a0_1,c0_2,z,z,z⟩
  refine TC.skip (B.n (S.n (TC.region (TL.i z z (TL.w z (OpVal.succ z z z (by omega)) (TL.i z z (TL.en ?_)))))))
  obtain ⟨hh,hlt138⟩:=nxt_x hR1 hh
  exact lf ((k105+1),()) hlt138 hh (Sub.pre 1 z)
 refine TC.exit (S.x (S.x ?_))
 replace hh:=fin_x hR1 hh
 refine TC.exitHere (S.n (TC.a (TL.s z z (TL.s z z (TL.en (TC.ret ?_))))))
 obtain rfl:=so hh
 exact ro [Res.rowS 43 2 encTip (.slice a0_1 x0.length c0_2) x0] z (RVs.tmp z RVs.nil) ⟨a0_1,c0_2,z,z,z⟩
theorem Hf_{a:Option Addr}{c:Nat}{l:List Arc}(hl:RS σ 8 encArc (.slice a l.length c) l)(hsz:l.length * 72≤140737488355328):
  Con Tryz.prog 94 #[.slice a l.length c] σ [] (RowP 66 8 encArc l σ):=by
 have hb:=hl.rv.big
 refine Con.mk (n:=8) Tryz.func94 z z z (fun w0=> ?_)
 refine TC.a (TL.s z z (TL.nilS 66 8 encArc (TL.en (TC.seq (TC.a (TL.s z z (TL.w z (eqlNilSl z underlying23 z z) (TL.en (TC.cond z (fun h2=> ?_) (fun h2=> ?_))))))))))
 ·refine TC.a (TL.s z z (TL.nilS 66 8 encArc (TL.en (TC.ret (S.r ?_)))))
  cases a with
  |some _=>simp at h2
  |none=>
   obtain rfl:=hl.none_nil
   exact ret1R z z
 refine TC.skip (S.n (TC.a (TL.op z (lit0 (enc:=encArc) z z underlying23 sz66 z z (fun a4 c5=> ?_)))))
 refine TL.s z z (TL.op z (appendS z z underlying23 sz66 by66 ze66 z z (by decide) z z z (.inl hl) (by simpa using hsz) (by decide) (fun a7 c8=> ?_)))
 exact TL.s z z (TL.en (TC.ret (ret1R z z)))
def Ci_(k125:Nat)(l128:List Arc)(k130:Nat):Option (((List Arc)×Nat×Nat)⊕((Nat)⊕((List Arc)))):=
 nxt (l128,k130,(k125+1))
def Cg_(x0:List Arc)(k105:Nat)(l122:List Arc)(k124:Nat)(k125:Nat):Option (((List Arc)×Nat×Nat)⊕((Nat)⊕((List Arc)))):=
 iteO (decide (((k125:Nat):Int)<(((x0.length - k105):Nat):Int))) (grd (k125<(x0.length - k105)) (grd (0≤(IntKind.i64.wrap (((k125:Nat):Int) - 1))∧(IntKind.i64.wrap (((k125:Nat):Int) - 1))<((x0.length - k105):Nat)) (iteO (decide (¬ ((nth l122 (k105+k125) Arc.zero)=(nth l122 (k105+(IntKind.i64.wrap (((k125:Nat):Int) - 1)).toNat) Arc.zero)))) (grd (k125<(x0.length - k105)) (grd (k124<l122.length) (Ci_ k125 (l122.set k124 (nth l122 (k105+k125) Arc.zero)) (k124+1)))) (Ci_ k125 l122 k124)))) (fin (grd (k124≤x0.length) (grd (k124≤(l122.take k124++List.replicate (l122.length - k124) Arc.zero).length) (fin (some ((l122.take k124++List.replicate (l122.length - k124) Arc.zero).take k124))))))
def Cn_(x0:List Arc)(k105:Nat):Option ((Nat)⊕((List Arc))):=
 iteO (decide (((k105:Nat):Int)<((x0.length:Nat):Int))) (grd (0≤(IntKind.i64.wrap (((k105:Nat):Int) - 1))∧(IntKind.i64.wrap (((k105:Nat):Int) - 1))<(x0.length:Int)) (iteO (decide ((nth x0 k105 Arc.zero)=(nth x0 ((IntKind.i64.wrap (((k105:Nat):Int) - 1)).toNat) Arc.zero))) (grd (k105≤x0.length) (iter (fun q:(List Arc)×Nat×Nat=>Cg_ x0 k105 q.1 q.2.1 q.2.2) (x0,k105,1))) (nxt (k105+1)))) (fin (some x0))
def compactA(x0:List Arc):Option ((List Arc)):=
 iteO (decide (((x0.length:Nat):Int)<2)) (some x0) (iter (fun q:Nat=>Cn_ x0 q) 1)
theorem G7_{x0:List Arc}{r:(List Arc)}(hh:compactA x0=some r):
  Con Tryz.prog 96 #[.slice a0_1 x0.length c0_2] σ [Res.rowS 66 8 encArc (.slice a0_1 x0.length c0_2) x0] (fun v σ' H'=> ∃a1 c1,v= .slice a1 r.length c1∧σ=σ'∧H'=[Res.rowS 66 8 encArc (.slice a1 r.length c1) r]):=by
 dsimp only [compactA]at hh
 refine Con.mk (n:=61) Tryz.func96 z z z (fun w0=> ?_)
 refine TC.a (TL.s z z (TL.en (TC.seq (TC.a (TL.s z z (TL.w z (lenC z underlying23 z) (TL.w z (OpVal.lss z z z) (TL.en (TC.cD z hh (fun h102 hh=> ?_) (fun h102 hh=> ?_))))))))))
 ·refine TC.a (TL.s z z (TL.s z z (TL.en (TC.ret (S.r ?_)))))
  obtain rfl:=so hh
  exact ro [Res.rowS 66 8 encArc (.slice a0_1 x0.length c0_2) x0] z (RVs.tmp z RVs.nil) ⟨a0_1,c0_2,z,z,z⟩
 refine TC.skip (S.n (TC.seq (TC.a (TL.i z z (TL.en (TC.block (TC.loopG (α:=(Nat)×(Unit)) (rgs [(2,4),(10,50)]) (fun g=>[(3,.int .i64 ((g.1:Nat):Int))]) (fun g=>[Res.rowS 66 8 encArc (.slice a0_1 x0.length c0_2) x0]) (fun g=>σ) (fun g=>iter (fun q:Nat=>Cn_ x0 q) g.1=some r) (fun g=>rounds (fun q:Nat=>Cn_ x0 q) g.1) (1,()) (Sub.pre 1 z) z (by repeat (first|exact trivial|refine ⟨z,?_⟩)) hh (fun g1 j1 hg1=> ?_))))))))
 obtain ⟨k105,_⟩:=g1
 have hh:=hg1;clear hg1
 try dsimp only
 obtain ⟨z1,hh,hR1⟩:=iter_e hh
 dsimp only [Cn_]at hh
 refine TC.isSl (i:=0) z (fun _ hb106 _=> ?_)
 refine TC.seq (TC.a (TL.i z z (TL.s z z (TL.w z (lenC z underlying23 z) (TL.w z (OpVal.lss z z z) (TL.en (TC.cD z hh (fun h107 hh=> ?_) (fun h107 hh=> ?_))))))))
 ·refine TC.skip (S.n (TC.seq (TC.block (TC.seq ?_))))
  have u19:=grd_c hh
  replace hh:=grd_t hh
  refine TC.draw [] (by kernel_rfl) (TA.a 0 z (moveSl (.inl z) z) z (TA.a 1 z (moveI (.inl z) z) z (TA.isSl (i:=0) z (fun hs110 _ _=> ?_))))
  refine TA.b 2 z (indexN z underlying23 sz66 z z hs110 (by omega)) z (TA.b 3 z (loadOA Arc.zero z ag66 sz66 z (q:=0) z encArc_len (by omega) (by omega)) z (TA.a 4 z (moveSl (.inl z) z) z (TA.a 5 z (moveI (.inl z) z) z (TA.a 6 z (subW z z z) z (TA.isSl (i:=0) z (fun hs111 _ _=> ?_))))))
  refine TA.b 7 z (OpVal.index z underlying23 sz66 z z hs111 u19.1 u19.2) z (TA.b 8 z (loadOA Arc.zero z ag66 sz66 z (q:=0) z encArc_len (by omega) (by omega)) z (TA.a 9 z (eqlSt (p:=(nth x0 k105 Arc.zero)=(nth x0 ((IntKind.i64.wrap (((k105:Nat):Int) - 1)).toNat) Arc.zero)) z z z eg66 (es66 (nth x0 k105 Arc.zero) (nth x0 ((IntKind.i64.wrap (((k105:Nat):Int) - 1)).toNat) Arc.zero)) z) z (TA.dn (S.n (TC.cD z hh (fun h112 hh=> ?_) (fun h112 hh=> ?_))))))
  ·refine TC.a (TL.s z z (TL.i z z ?_))
   have u24:=grd_c hh
   replace hh:=grd_t hh
   refine TL.isSl (i:=0) z (fun hs113 _ _=> ?_)
   obtain ⟨a113,c113,hv113,ho113⟩:=vw_of (k:=k105) (size:=8) hs113 (by omega)
   refine TL.w z (ho113 z underlying23 sz66 z z) (TL.s z z (TL.en (TC.seq (TC.a (TL.i z z (TL.en (TC.block (TC.loopG (α:=((List Arc)×Nat×Nat)×(Unit)) (rgs [(3,1),(5,1),(29,25)]) (fun g=>[(3,.int .i64 ((g.1.2.1:Nat):Int)),(5,.int .i64 ((g.1.2.2:Nat):Int))]) (fun g=>[Res.rowS 66 8 encArc (.slice a0_1 x0.length c0_2) g.1.1]) (fun g=>σ) (fun g=>iter (fun q:(List Arc)×Nat×Nat=>Cg_ x0 k105 q.1 q.2.1 q.2.2) g.1=some z1∧g.1.1.length=x0.length) (fun g=>rounds (fun q:(List Arc)×Nat×Nat=>Cg_ x0 k105 q.1 q.2.1 q.2.2) g.1) ((x0,k105,1),()) (Sub.pre 1 z) z (by repeat (first|exact trivial|refine ⟨z,?_⟩)) ⟨hh,z⟩ (fun g2 j2 hg2=> ?_)))))))))
   obtain ⟨⟨l122,k124,k125⟩,_⟩:=g2
   obtain ⟨hh,hn123⟩:=hg2
   try dsimp only at hn123 ⊢
   obtain ⟨z2,hh,hR2⟩:=iter_e hh
   dsimp only [Cg_]at hh
   have hn123b:=hn123
   refine TC.isSl (i:=0) z (fun _ hb126 _=> ?_)
   refine TC.seq (TC.a (TL.i z z (TL.s z z (TL.w z (lenC z underlying23 z) (TL.w z (OpVal.lss z z z) (TL.en (TC.cD z hh (fun h127 hh=> ?_) (fun h127 hh=> ?_))))))))
   ·refine TC.skip (S.n (TC.cutG (α:=((List Arc)×Nat)×(Unit)) (rgs [(3,1),(35,19)]) (fun g=>[(3,.int .i64 ((g.1.2:Nat):Int))]) (fun g=>[Res.rowS 66 8 encArc (.slice a0_1 x0.length c0_2) g.1.1]) (fun g=>σ) (fun g=>Ci_ k125 g.1.1 g.1.2=some z2∧g.1.1.length=x0.length) ?_ (fun g j hg=> ?_)))
    ·skip
     refine TC.block (TC.seq ?_)
     have u33:=grd_c hh
     replace hh:=grd_t hh
     have u38:=grd_c hh
     replace hh:=grd_t hh
     refine TC.draw [] (by kernel_rfl) (TA.a 0 z (moveSl (.inl z) z) z (TA.a 1 z (moveI (.inl z) z) z (TA.b 2 z (elVw hv113 (by omega) (indexN z underlying23 sz66 z z hv113.sl (by omega))) z (TA.b 3 z (loadOA Arc.zero z ag66 sz66 z (q:=0) z encArc_len (by omega) (by omega)) z (TA.a 4 z (moveSl (.inl z) z) z (TA.a 5 z (moveI (.inl z) z) z (TA.a 6 z (subW z z z) z (TA.b 7 z (elVw hv113 (by omega) (OpVal.index z underlying23 sz66 z z hv113.sl u38.1 u38.2)) z (TA.b 8 z (loadOA Arc.zero z ag66 sz66 z (q:=0) z encArc_len (by omega) (by omega)) z (TA.a 9 z (neqSt (p:=(nth l122 (k105+k125) Arc.zero)=(nth l122 (k105+(IntKind.i64.wrap (((k125:Nat):Int) - 1)).toNat) Arc.zero)) z z z eg66 (es66 (nth l122 (k105+k125) Arc.zero) (nth l122 (k105+(IntKind.i64.wrap (((k125:Nat):Int) - 1)).toNat) Arc.zero)) z) z (TA.dn (S.n (TC.cD z hh (fun h131 hh=> ?_) (fun h131 hh=> ?_))))))))))))))
     ·refine TC.a (TL.s z z (TL.i z z (TL.s z z (TL.i z z ?_))))
      have u45:=grd_c hh
      replace hh:=grd_t hh
      refine TL.w z (elVw hv113 (by omega) (indexN z underlying23 sz66 z z hv113.sl (by omega))) (TL.w z (loadOA Arc.zero z ag66 sz66 z (q:=0) z encArc_len (by omega) (by omega)) ?_)
      have u47:=grd_c hh
      replace hh:=grd_t hh
      refine TL.isSl (i:=0) z (fun hs132 _ _=> ?_)
      refine TL.w z (indexN z underlying23 sz66 z z hs132 (by omega)) ?_
      have hn133:(l122.set k124 (nth l122 (k105+k125) Arc.zero)).length=x0.length:=by rw [List.length_set];exact hn123
      refine TL.op z (storeS (nth l122 (k105+k125) Arc.zero) z sz66 z z z z encArc_len encArc_one (by omega) (by omega) ?_)
      exact TL.en (TC.region (TL.i z z (TL.w z (OpVal.succ z z z (by omega)) (TL.i z z (TL.nil (B.n (S.n (cf (((l122.set k124 (nth l122 (k105+k125) Arc.zero)),(k124+1)),()) ⟨hh,hn133⟩ (Sub.pre 1 z)))))))))
     exact TC.skip (B.n (S.n (cf ((l122,k124),()) ⟨hh,hn123⟩ (Sub.pre 1 z))))
    skip
    obtain ⟨⟨l128,k130⟩,_⟩:=g
    obtain ⟨hh,hn129⟩:=hg
    try dsimp only at hn129 ⊢
    dsimp only [Ci_]at hh
    have hn129b:=hn129
    refine TC.isSl (i:=0) z (fun _ hb134 _=> ?_)
    refine TC.region (TL.i z z (TL.w z (OpVal.succ z z z (by omega)) (TL.i z z (TL.en ?_))))
    obtain ⟨hh,hlt135⟩:=nxt_x hR2 hh
    exact lf ((l128,k130,(k125+1)),()) hlt135 ⟨hh,hn129⟩ (Sub.pre 1 z)
   refine TC.exit (S.x (S.x ?_))
   replace hh:=fin_x hR2 hh
   refine TC.exitHere (S.n (TC.a (TL.s z z (TL.i z z ?_))))
   have u57:=grd_c hh
   replace hh:=grd_t hh
   refine TL.isSl (i:=0) z (fun hs136 _ _=> ?_)
   rw [hn123]at hs136
   obtain ⟨a136,c136,hv136,ho136⟩:=vw_of (k:=k124) (size:=8) hs136 (by omega)
   refine TL.w z (ho136 z underlying23 sz66 z z) ?_
   have hn137:(l122.take k124++List.replicate (l122.length - k124) Arc.zero).length=x0.length:=by simp only [List.length_append,List.length_take,List.length_replicate];try simp only [List.length_replicate]at *;omega
   refine TL.op z (clearV (k:=k124) Arc.zero z underlying23 ze66 z z hv136 (by omega) (by omega) encArc_len (by decide) z encArc_one ?_)
   refine TL.en (TC.a (TL.s z z (TL.i z z ?_)))
   rw [←hn137]
   have u61:=grd_c hh
   replace hh:=grd_t hh
   refine TL.op z (cutS z underlying23 sz66 z z z z z (by omega) encArc_len ?_)
   refine TL.s z z (TL.en (TC.ret (B.r (S.r (S.r ?_)))))
   replace hh:=fin_x hR1 hh
   refine B.r (S.r ?_)
   obtain rfl:=so hh
   exact ro [Res.rowS 66 8 encArc (.slice a0_1 ((l122.take k124++List.replicate (l122.length - k124) Arc.zero).take k124).length c0_2) ((l122.take k124++List.replicate (l122.length - k124) Arc.zero).take k124)] z (RVs.tmp z RVs.nil) ⟨a0_1,c0_2,z,z,z⟩
  refine TC.skip (B.n (S.n (TC.region (TL.i z z (TL.w z (OpVal.succ z z z (by omega)) (TL.i z z (TL.en ?_)))))))
  obtain ⟨hh,hlt138⟩:=nxt_x hR1 hh
  exact lf ((k105+1),()) hlt138 hh (Sub.pre 1 z)
 refine TC.exit (S.x (S.x ?_))
 replace hh:=fin_x hR1 hh
 refine TC.exitHere (S.n (TC.a (TL.s z z (TL.s z z (TL.en (TC.ret ?_))))))
 obtain rfl:=so hh
 exact ro [Res.rowS 66 8 encArc (.slice a0_1 x0.length c0_2) x0] z (RVs.tmp z RVs.nil) ⟨a0_1,c0_2,z,z,z⟩
def onceS(x0:List (List UInt8)):Option ((List (List UInt8))):=
 grd (x0.length * 16≤140737488355328) (bnd (compactS (sortL Lib.compareBytes x0)) (fun v9=>some v9))
def H0_(σ:Store)(r:(List (List UInt8))):Value→Store→List Res→Prop:=fun v σ' H'=>
 ∃a1 c1,v= .slice a1 r.length c1∧σ=σ'∧H'=[Res.rowS 9 1 eS_ (.slice a1 r.length c1) r]
theorem Hp_{x0:List (List UInt8)}(f0_0:RS σ 1 eS_ (.slice a0_0 x0.length c0_0) x0){r:(List (List UInt8))}(hh:onceS x0=some r):
  Con Tryz.prog 31 #[.slice a0_0 x0.length c0_0,.func (.func 32) #[] #[]] σ [] (H0_ σ r):=by
 dsimp only [onceS]at hh
 have f0_0b:=f0_0.rv.big
 refine Con.mk (n:=13) Tryz.func31 z z z (fun w0=> ?_)
 refine TC.a (TL.s z z (TL.en (TC.a (TL.s z z ?_))))
 have u3:=grd_c hh
 replace hh:=grd_t hh
 refine TL.op z (OpOk.call (Hk_ f0_0 u3) z z pf63 z z z z ?_)
 rintro _ _ _ _ ⟨⟨a101,c102,rfl⟩,rfl,rfl⟩
 refine TL.s z z (TL.en (TC.a (TL.s z z (TL.w z (moveFn (.inl z) z) ?_))))
 have hn104:(sortL Lib.compareBytes x0).length=x0.length:=List.length_mergeSort _
 refine TL.op z (OpOk.call (Ho_ (l:=x0)) z z pf64 z z z z ?_)
 rintro _ _ _ _ ⟨rfl,rfl,rfl⟩
 refine TL.en (TC.a (TL.s z z ?_))
 rw [←hn104]
 obtain ⟨v9,u9,hh⟩:=bnd_e hh
 refine TL.op z (OpOk.call (Gw_ u9) z z pf65 z z z z ?_)
 rintro _ _ _ hle105 ⟨a105_1,c105_2,rfl,rfl,rfl⟩
 refine TL.s z z (TL.en (TC.ret ?_))
 obtain rfl:=so hh
 exact ro [Res.rowS 9 1 eS_ (.slice a105_1 v9.length c105_2) v9] z (RVs.tmp z RVs.nil) ⟨a105_1,c105_2,z,z,z⟩
def onceT(x0:List Tip):Option ((List Tip)):=
 grd (x0.length * 24≤140737488355328) (bnd (compactT (sortL cmpTip x0)) (fun v9=>some v9))
def H2_(σ:Store)(r:(List Tip)):Value→Store→List Res→Prop:=fun v σ' H'=>
 ∃a1 c1,v= .slice a1 r.length c1∧σ=σ'∧H'=[Res.rowS 43 2 encTip (.slice a1 r.length c1) r]
theorem Gr_{x0:List Tip}(f0_0:RS σ 2 encTip (.slice a0_0 x0.length c0_0) x0){r:(List Tip)}(hh:onceT x0=some r):
  Con Tryz.prog 57 #[.slice a0_0 x0.length c0_0,.func (.func 58) #[] #[]] σ [] (H2_ σ r):=by
 dsimp only [onceT]at hh
 have f0_0b:=f0_0.rv.big
 refine Con.mk (n:=13) Tryz.func57 z z z (fun w0=> ?_)
 refine TC.a (TL.s z z (TL.en (TC.a (TL.s z z ?_))))
 have u3:=grd_c hh
 replace hh:=grd_t hh
 refine TL.op z (OpOk.call (Hg_ f0_0 u3) z z pf90 z z z z ?_)
 rintro _ _ _ _ ⟨⟨a101,c102,rfl⟩,rfl,rfl⟩
 refine TL.s z z (TL.en (TC.a (TL.s z z (TL.w z (moveFn (.inl z) z) ?_))))
 have hn104:(sortL cmpTip x0).length=x0.length:=List.length_mergeSort _
 refine TL.op z (OpOk.call (Hr_ (l:=x0)) z z pf68 z z z z ?_)
 rintro _ _ _ _ ⟨rfl,rfl,rfl⟩
 refine TL.en (TC.a (TL.s z z ?_))
 rw [←hn104]
 obtain ⟨v9,u9,hh⟩:=bnd_e hh
 refine TL.op z (OpOk.call (Gy_ u9) z z pf91 z z z z ?_)
 rintro _ _ _ hle105 ⟨a105_1,c105_2,rfl,rfl,rfl⟩
 refine TL.s z z (TL.en (TC.ret ?_))
 obtain rfl:=so hh
 exact ro [Res.rowS 43 2 encTip (.slice a105_1 v9.length c105_2) v9] z (RVs.tmp z RVs.nil) ⟨a105_1,c105_2,z,z,z⟩
def onceA(x0:List Arc):Option ((List Arc)):=
 grd (x0.length * 72≤140737488355328) (bnd (compactA (sortL cmpArc x0)) (fun v9=>some v9))
def H1_(σ:Store)(r:(List Arc)):Value→Store→List Res→Prop:=fun v σ' H'=>
 ∃a1 c1,v= .slice a1 r.length c1∧σ=σ'∧H'=[Res.rowS 66 8 encArc (.slice a1 r.length c1) r]
theorem Hs_{x0:List Arc}(f0_0:RS σ 8 encArc (.slice a0_0 x0.length c0_0) x0){r:(List Arc)}(hh:onceA x0=some r):
  Con Tryz.prog 59 #[.slice a0_0 x0.length c0_0,.func (.func 60) #[] #[]] σ [] (H1_ σ r):=by
 dsimp only [onceA]at hh
 have f0_0b:=f0_0.rv.big
 refine Con.mk (n:=13) Tryz.func59 z z z (fun w0=> ?_)
 refine TC.a (TL.s z z (TL.en (TC.a (TL.s z z ?_))))
 have u3:=grd_c hh
 replace hh:=grd_t hh
 refine TL.op z (OpOk.call (Hf_ f0_0 u3) z z pf94 z z z z ?_)
 rintro _ _ _ _ ⟨⟨a101,c102,rfl⟩,rfl,rfl⟩
 refine TL.s z z (TL.en (TC.a (TL.s z z (TL.w z (moveFn (.inl z) z) ?_))))
 have hn104:(sortL cmpArc x0).length=x0.length:=List.length_mergeSort _
 refine TL.op z (OpOk.call (Ht_ (l:=x0)) z z pf95 z z z z ?_)
 rintro _ _ _ _ ⟨rfl,rfl,rfl⟩
 refine TL.en (TC.a (TL.s z z ?_))
 rw [←hn104]
 obtain ⟨v9,u9,hh⟩:=bnd_e hh
 refine TL.op z (OpOk.call (G7_ u9) z z pf96 z z z z ?_)
 rintro _ _ _ hle105 ⟨a105_1,c105_2,rfl,rfl,rfl⟩
 refine TL.s z z (TL.en (TC.ret ?_))
 obtain rfl:=so hh
 exact ro [Res.rowS 66 8 encArc (.slice a105_1 v9.length c105_2) v9] z (RVs.tmp z RVs.nil) ⟨a105_1,c105_2,z,z,z⟩
def Cb_(x0:Fst):Option (Fst×Int):=
 bnd (Be_ x0) (fun v5=>iteO (decide (v5≠0)) (some ((⟨0,([]:List Tip),([]:List Tip),([]:List Arc)⟩:Fst),1)) (bnd (onceT x0.starts) (fun v14=>bnd (onceT x0.ends) (fun v17=>bnd (onceA x0.arcs) (fun v20=>some ((⟨x0.states,v14,v17,v20⟩:Fst),0))))))
def Hh_(σ:Store)(r:Fst×Int):Value→Store→List Res→Prop:=fun v σ' H'=>
 ∃a1 c1 a2 c2 a3 c3,v= .tuple #[.agg #[.int .i64 r.1.states,.slice a1 r.1.starts.length c1,.slice a2 r.1.ends.length c2,.slice a3 r.1.arcs.length c3],.int .i64 r.2]∧RS σ' 2 encTip (.slice a1 r.1.starts.length c1) r.1.starts∧RS σ' 2 encTip (.slice a2 r.1.ends.length c2) r.1.ends∧RS σ' 8 encArc (.slice a3 r.1.arcs.length c3) r.1.arcs∧H'=[]
theorem G0_{x0:Fst}(f0_0:RS σ 2 encTip (.slice a0_0 x0.starts.length c0_0) x0.starts)(f0_1:RS σ 2 encTip (.slice a0_1 x0.ends.length c0_1) x0.ends)(f0_2:RS σ 8 encArc (.slice a0_2 x0.arcs.length c0_2) x0.arcs){r:Fst×Int}(hh:Cb_ x0=some r):
  Con Tryz.prog 26 #[.agg #[.int .i64 x0.states,.slice a0_0 x0.starts.length c0_0,.slice a0_1 x0.ends.length c0_1,.slice a0_2 x0.arcs.length c0_2]] σ [] (Hh_ σ r):=by
 dsimp only [Cb_]at hh
 have f0_0b:=f0_0.rv.big
 have f0_1b:=f0_1.rv.big
 have f0_2b:=f0_2.rv.big
 refine Con.mk (n:=20) Tryz.func26 z z z (fun w0=> ?_)
 refine TC.a (TL.op z (boxA z z z z (fun b101=> ?_)))
 refine TL.op z (OpOk.alloc z ze25 z z (fun b103=> ?_))
 refine TL.i z z (TL.en (TC.seq (TC.a (TL.w z (loadAll z ag25 sz25 z (i:=1) z z) ?_))))
 obtain ⟨v5,u5,hh⟩:=bnd_e hh
 refine TL.op z (callP (Di_ (x0:=x0) f0_0 f0_1 f0_2 u5) z z pf21 z z z ?_)
 refine TL.w z (OpVal.neq z z z) (TL.en (TC.cD z hh (fun h105 hh=> ?_) (fun h105 hh=> ?_)))
 ·refine TC.a (TL.w z (buildL z pl25 ze25 z) (TL.op z (storeAll z sz25 z z z z z z ?_)))
  refine TL.i z z (TL.en (TC.rt 1 (S.r ?_)))
  obtain rfl:=so hh
  exact ro [] z (RVs.agg ag25 sz25 z (i:=0) z z (RVs.tmp z RVs.nil)) ⟨none,0,none,0,none,0,z,(RS.nilF _ encTip encTip_len),(RS.nilF _ encTip encTip_len),(RS.nilF _ encArc encArc_len),z⟩
 refine TC.skip (S.n (TC.seq ?_))
 obtain ⟨v14,u14,hh⟩:=bnd_e hh
 obtain ⟨v17,u17,hh⟩:=bnd_e hh
 obtain ⟨v20,u20,hh⟩:=bnd_e hh
 refine TC.draw [12,13] (by kernel_rfl) (TA.a 0 z (fieldLoc z fo25_0 z) z (TA.b 1 z (loadLoc z ag3 z (i:=1) z z) z (TA.a 2 z (fieldLoc z fo25_1 z) z (TA.b 3 z (loadLoc z ag22 z (i:=1) z z) z (TA.a 5 z (fieldLoc z fo25_2 z) z (TA.b 6 z (loadLoc z ag22 z (i:=1) z z) z (TA.a 8 z (fieldLoc z fo25_3 z) z (TA.b 9 z (loadLoc z ag23 z (i:=1) z z) z (TA.ac 4 z (OpOk.call (Gr_ f0_0 u14) z z pf57 z z z z ?_))))))))))
 rintro _ _ _ hle112 ⟨a112_1,c112_1,rfl,rfl,rfl⟩
 refine k1 (TA.ac 7 z (OpOk.call (Gr_ f0_1 u17) z z pf57 z z z z ?_))
 rintro _ _ _ hle114 ⟨a114_1,c114_1,rfl,rfl,rfl⟩
 refine k2 (TA.ac 10 z (OpOk.call (Hs_ f0_2 u20) z z pf59 z z z z ?_))
 rintro _ _ _ hle116 ⟨a116_1,c116_1,rfl,rfl,rfl⟩
 refine k3 (TA.a 11 z (buildL z pl25 ze25 z) z (TA.front 3 z z (TA.last 12 (by kernel_rfl) z z z (storeAll z sz25 z z z z z z ?_))))
 refine TZ.v 13 (by kernel_rfl) z z z (moveI (.inr z) z) z z (TZ.done (by kernel_rfl) (S.n (TC.front 3 z z (TC.sealS encTip_len (fun τ120 hle119 hr118=> ?_)))))
 have hr118b:=hr118.rv.big
 refine TC.front 2 z z (TC.sealS encTip_len (fun τ123 hle122 hr121=> ?_))
 replace hr118:=hr118.mono hle122
 have hr121b:=hr121.rv.big
 refine TC.front 1 z z (TC.sealS encArc_len (fun τ126 hle125 hr124=> ?_))
 replace hr118:=hr118.mono hle125
 replace hr121:=hr121.mono hle125
 have hr124b:=hr124.rv.big
 refine TC.rt 1 ?_
 obtain rfl:=so hh
 exact ro [] z (RVs.agg ag25 sz25 z (i:=0) z z (RVs.tmp z RVs.nil)) ⟨a112_1,c112_1,a114_1,c114_1,a116_1,c116_1,z,hr118,hr121,hr124,z⟩
def Fk_(l120:List (List Arc))(x0:Fst)(k124:Nat):Option (((List (List Arc))×Nat)⊕((List (List UInt8))×Int)):=
 nxt ((l120.set (((nth x0.arcs k124 Arc.zero).frm).toNat) ((nth l120 (((nth x0.arcs k124 Arc.zero).frm).toNat) ([]:List Arc))++[(nth x0.arcs k124 Arc.zero)])),(k124+1))
def Fj_(l229:List (List (List UInt8)))(x0:Fst)(k233:Nat):Option (((List (List (List UInt8)))×Nat)⊕((List (List UInt8))×Int)):=
 nxt ((l229.set (((nth x0.ends k233 Tip.zero).state).toNat) ((nth l229 (((nth x0.ends k233 Tip.zero).state).toNat) ([]:List (List UInt8)))++[(nth x0.ends k233 Tip.zero).out])),(k233+1))
def Bi_(l229:List (List (List UInt8)))(v120c:FPair×Unit)(l338:List (List UInt8))(k341:Nat):Option (((List (List UInt8))×Nat)⊕(((List (List UInt8)))⊕((List (List UInt8))×Int))):=
 iteO (decide (((k341:Nat):Int)<(((nth l229 v120c.1.state.toNat ([]:List (List UInt8))).length:Nat):Int))) (grd (v120c.1.out.length+(nth (nth l229 v120c.1.state.toNat ([]:List (List UInt8))) k341 ([]:List UInt8)).length≤9223372036854775807) (grd ((l338.length+[(v120c.1.out++(nth (nth l229 v120c.1.state.toNat ([]:List (List UInt8))) k341 ([]:List UInt8)))].length) * 16≤140737488355328) (nxt ((l338++[(v120c.1.out++(nth (nth l229 v120c.1.state.toNat ([]:List (List UInt8))) k341 ([]:List UInt8)))]),(k341+1))))) (fin (nxt l338))
def Bh_(l229:List (List (List UInt8)))(l299:List (List UInt8))(oE:Option (FPair×Unit)):Option (((List (List UInt8)))⊕((List (List UInt8))×Int)):=
 optE oE (fin (bnd (onceS l299) (fun v148=>some (v148,0)))) (fun v120c=>grd (0≤v120c.1.state∧v120c.1.state<(l229.length:Int)) (iter (fun q:(List (List UInt8))×Nat=>Bi_ l229 v120c q.1 q.2) (l299,0)))
def Bf_(x0:Fst)(m201:FM FPair Unit)(l229:List (List (List UInt8)))(k233:Nat):Option (((List (List (List UInt8)))×Nat)⊕((List (List UInt8))×Int)):=
 iteO (decide (((k233:Nat):Int)<((x0.ends.length:Nat):Int))) (grd (0≤((nth x0.ends k233 Tip.zero).state)∧((nth x0.ends k233 Tip.zero).state)<(l229.length:Int)) (grd (((nth l229 (((nth x0.ends k233 Tip.zero).state).toNat) ([]:List (List UInt8))).length+[(nth x0.ends k233 Tip.zero).out].length) * 16≤140737488355328) (grd (0≤((nth x0.ends k233 Tip.zero).state)∧((nth x0.ends k233 Tip.zero).state)<(l229.length:Int)) (Fj_ l229 x0 k233)))) (fin (allP (fun q=>Rep q m201) (fun q=>runL (fun (q:(List (List UInt8))) (oE:Option (FPair×Unit))=>Bh_ l229 q oE) q ([]:List (List UInt8)))))
def A8_(x1:List UInt8)(l120:List (List Arc))(x0:Fst)(m201:FM FPair Unit)(k203:Nat):Option (((FM FPair Unit)×Nat)⊕((List (List UInt8))×Int)):=
 iteO (decide (((k203:Nat):Int)<((x1.length:Nat):Int))) (bnd (E6_ l120 m201 (nth x1 k203 (0:UInt8))) (fun v74=>iteO (!v74.2) (fin (some (([]:List (List UInt8)),2))) (nxt (v74.1,(k203+1))))) (fin (grd (0≤x0.states∧24 * x0.states.toNat≤281474976710656) (iter (fun q:(List (List (List UInt8)))×Nat=>Bf_ x0 m201 q.1 q.2) ((List.replicate x0.states.toNat ([]:List (List UInt8))),0))))
def Bj_(x0:Fst)(x1:List UInt8)(l120:List (List Arc))(m180:FM FPair Unit)(k181:Nat):Option (((FM FPair Unit)×Nat)⊕((List (List UInt8))×Int)):=
 iteO (decide (((k181:Nat):Int)<((x0.starts.length:Nat):Int))) (nxt ((m180.put (⟨(nth x0.starts k181 Tip.zero).state,(nth x0.starts k181 Tip.zero).out⟩:FPair) ()),(k181+1))) (fin (iter (fun q:(FM FPair Unit)×Nat=>A8_ x1 l120 x0 q.1 q.2) (m180,0)))
def Bg_(x0:Fst)(x1:List UInt8)(l120:List (List Arc))(k124:Nat):Option (((List (List Arc))×Nat)⊕((List (List UInt8))×Int)):=
 iteO (decide (((k124:Nat):Int)<((x0.arcs.length:Nat):Int))) (grd (0≤((nth x0.arcs k124 Arc.zero).frm)∧((nth x0.arcs k124 Arc.zero).frm)<(l120.length:Int)) (grd (((nth l120 (((nth x0.arcs k124 Arc.zero).frm).toNat) ([]:List Arc)).length+[(nth x0.arcs k124 Arc.zero)].length) * 72≤140737488355328) (grd (0≤((nth x0.arcs k124 Arc.zero).frm)∧((nth x0.arcs k124 Arc.zero).frm)<(l120.length:Int)) (Fk_ l120 x0 k124)))) (fin (iter (fun q:(FM FPair Unit)×Nat=>Bj_ x0 x1 l120 q.1 q.2) ((FM.emp:FM FPair Unit),0)))
def Cc_(x0:Fst)(x1:List UInt8):Option ((List (List UInt8))×Int):=
 grd (x1.length≤281474976710656) (bnd (Be_ x0) (fun v5=>iteO (decide (v5≠0)) (some (([]:List (List UInt8)),1)) (iteO (decide (256<((x1.length:Nat):Int))) (some (([]:List (List UInt8)),2)) (grd (0≤x0.states∧24 * x0.states.toNat≤281474976710656) (iter (fun q:(List (List Arc))×Nat=>Bg_ x0 x1 q.1 q.2) ((List.replicate x0.states.toNat ([]:List Arc)),0))))))
def Hi_(σ:Store)(r:(List (List UInt8))×Int):Value→Store→List Res→Prop:=fun v σ' H'=>
 ∃a1 c1,v= .tuple #[.slice a1 r.1.length c1,.int .i64 r.2]∧RS σ' 1 eS_ (.slice a1 r.1.length c1) r.1∧H'=[]
theorem Dz_{x0:Fst}{x1:List UInt8}(f0_0:RS σ 2 encTip (.slice a0_0 x0.starts.length c0_0) x0.starts)(f0_1:RS σ 2 encTip (.slice a0_1 x0.ends.length c0_1) x0.ends)(f0_2:RS σ 8 encArc (.slice a0_2 x0.arcs.length c0_2) x0.arcs){r:(List (List UInt8))×Int}(hh:Cc_ x0 x1=some r):
  Con Tryz.prog 11 #[.agg #[.int .i64 x0.states,.slice a0_0 x0.starts.length c0_0,.slice a0_1 x0.ends.length c0_1,.slice a0_2 x0.arcs.length c0_2],.string (bs x1)] σ [] (Hi_ σ r):=by
 dsimp only [Cc_]at hh
 have f0_0b:=f0_0.rv.big
 have f0_1b:=f0_1.rv.big
 have f0_2b:=f0_2.rv.big
 refine Con.mk (n:=135) Tryz.func11 z z z (fun w0=> ?_)
 have x1b:=grd_c hh
 replace hh:=grd_t hh
 refine TC.a (TL.op z (boxA z z z z (fun b101=> ?_)))
 refine TL.s z z (TL.i z z (TL.en (TC.seq (TC.a (TL.w z (loadAll z ag25 sz25 z (i:=0) z z) ?_)))))
 obtain ⟨v5,u5,hh⟩:=bnd_e hh
 refine TL.op z (callP (Di_ (x0:=x0) f0_0 f0_1 f0_2 u5) z z pf21 z z z ?_)
 refine TL.w z (OpVal.neq z z z) (TL.en (TC.cD z hh (fun h103 hh=> ?_) (fun h103 hh=> ?_)))
 ·refine TC.a (TL.s z z (TL.i z z (TL.en (TC.rt 0 (S.r ?_)))))
  obtain rfl:=so hh
  exact rq [4,5] ⟨none,0,z,(RS.nilF _ eS_ eSl_),z⟩
 refine TC.skip (S.n (TC.seq (TC.a (TL.w z (moveStr (.inl z) z) (TL.w z (lenBs z underlying9 z) (TL.w z (OpVal.gtr z z z) (TL.en (TC.cD z hh (fun h104 hh=> ?_) (fun h104 hh=> ?_)))))))))
 ·refine TC.a (TL.s z z (TL.i z z (TL.en (TC.rt 0 (S.r ?_)))))
  obtain rfl:=so hh
  exact rq [4,5] ⟨none,0,z,(RS.nilF _ eS_ eSl_),z⟩
 refine TC.skip (S.n (TC.a (TL.w z (fieldLoc z fo25_0 z) (TL.w z (loadLoc z ag3 z (i:=0) z z) ?_))))
 have u16:=grd_c hh
 replace hh:=grd_t hh
 refine TL.op rfl (makeN (q:=x0.states.toNat) (E:=66) (size:=8) (enc:=encArc) rfl underlying68 sz23 by23 ze23 rfl rfl (vN u16.1) (vN u16.1) (by omega) (by decide) rfl (fun a105 c106 zf107=> ?_))
 refine TL.s z z (TL.en (TC.seq (TC.a (TL.w z (fieldLoc z fo25_3 z) (TL.w z (loadLoc z ag23 z (i:=1) z z) (TL.w z (lenC z underlying23 z) (TL.i z z (TL.en (TC.block (TC.loopG (α:=((List (List Arc))×Nat)×((List (NP Arc)))) (rgs [(8,1),(34,17)]) (fun g=>[(34,.int .i64 ((g.1.2:Nat):Int))]) (fun g=>[Res.cells b101 #[.int .i64 x0.states,.slice a0_0 x0.starts.length c0_0,.slice a0_1 x0.ends.length c0_1,.slice a0_2 x0.arcs.length c0_2] 25,Res.nest 23 66 8 encArc (.slice a105 (List.replicate x0.states.toNat ([]:List Arc)).length c106) g.2]) (fun g=>σ) (fun g=>iter (fun q:(List (List Arc))×Nat=>Bg_ x0 x1 q.1 q.2) g.1=some r∧g.1.1.length=(List.replicate x0.states.toNat ([]:List Arc)).length∧Zn g.2 g.1.1) (fun g=>rounds (fun q:(List (List Arc))×Nat=>Bg_ x0 x1 q.1 q.2) g.1) (((List.replicate x0.states.toNat ([]:List Arc)),0),(List.replicate x0.states.toNat (nilN:NP Arc))) (Sub.f [1] 2) z (by repeat (first|exact trivial|refine ⟨z,?_⟩)) ⟨hh,z,zf107⟩ (fun g1 j1 hg1=> ?_)))))))))))
 obtain ⟨⟨l120,k124⟩,z122⟩:=g1
 obtain ⟨hh,hn121,zf123⟩:=hg1
 try dsimp only at hn121 zf123 ⊢
 obtain ⟨z1,hh,hR1⟩:=iter_e hh
 dsimp only [Bg_]at hh
 have hn121b:=hn121
 have zf123b:=zf123.len
 refine TC.know (isSl_nest (q:=1) z zf123) (fun ⟨_,hb125⟩=> ?_)
 refine TC.a (TL.w z (OpVal.lss z z z) (TL.en (TC.seq (TC.cD z hh (fun h126 hh=> ?_) (fun h126 hh=> ?_)))))
 ·refine TC.skip (S.n (TC.cutG (α:=(Unit)×((List (NP Arc)))) (rgs [(8,1),(36,14)]) (fun g=>[]) (fun g=>[Res.cells b101 #[.int .i64 x0.states,.slice a0_0 x0.starts.length c0_0,.slice a0_1 x0.ends.length c0_1,.slice a0_2 x0.arcs.length c0_2] 25,Res.nest 23 66 8 encArc (.slice a105 (List.replicate x0.states.toNat ([]:List Arc)).length c106) g.2]) (fun g=>σ) (fun g=>Fk_ l120 x0 k124=some z1∧(l120.set (((nth x0.arcs k124 Arc.zero).frm).toNat) ((nth l120 (((nth x0.arcs k124 Arc.zero).frm).toNat) ([]:List Arc))++[(nth x0.arcs k124 Arc.zero)])).length=(List.replicate x0.states.toNat ([]:List Arc)).length∧Zn g.2 (l120.set (((nth x0.arcs k124 Arc.zero).frm).toNat) ((nth l120 (((nth x0.arcs k124 Arc.zero).frm).toNat) ([]:List Arc))++[(nth x0.arcs k124 Arc.zero)]))) ?_ (fun g j hg=> ?_)))
  ·skip
   refine TC.block (TC.a (TL.w z (indexN z underlying23 sz66 z z f0_2.rv.sl (by omega)) (TL.w z (loadSA Arc.zero z ag66 sz66 z f0_2 (by omega) (by omega)) (TL.op z (OpOk.alloc z ze66 z z (fun b130=> ?_))))))
   refine TL.op z (storeAll z sz66 z z z z z z ?_)
   refine TL.en ?_
   have u33:=grd_c hh
   replace hh:=grd_t hh
   have u37:=grd_c hh
   replace hh:=grd_t hh
   have u38:=grd_c hh
   replace hh:=grd_t hh
   refine TC.drawR (Hr:=[Res.cells b130 #[.int .i64 ((nth x0.arcs k124 Arc.zero).frm),.int .i64 ((nth x0.arcs k124 Arc.zero).to),.int .u64 ((((nth x0.arcs k124 Arc.zero).set).a:Nat):Int),.int .u64 ((((nth x0.arcs k124 Arc.zero).set).b:Nat):Int),.int .u64 ((((nth x0.arcs k124 Arc.zero).set).c:Nat):Int),.int .u64 ((((nth x0.arcs k124 Arc.zero).set).d:Nat):Int),.string (bs ((nth x0.arcs k124 Arc.zero).out)),.bool ((nth x0.arcs k124 Arc.zero).copy)] 66,Res.cells b101 #[.int .i64 x0.states,.slice a0_0 x0.starts.length c0_0,.slice a0_1 x0.ends.length c0_1,.slice a0_2 x0.arcs.length c0_2] 25]) (fun r hr=>mem_pick [0,1] z hr) [] (by kernel_rfl) (TA.a 0 z (moveSl (.inl z) z) z (TA.a 1 z (fieldLoc z fo66_0 z) z (TA.b 2 z (loadLoc z ag3 z (i:=0) z z) z (TA.a 3 z (moveSl (.inl z) z) z (TA.a 4 z (fieldLoc z fo66_0 z) z (TA.b 5 z (loadLoc z ag3 z (i:=0) z z) z (TA.know (isSl_nest (q:=2) z zf123) (fun ⟨hs143,hs143b⟩=> ?_))))))))
   refine TA.b 6 z (OpVal.index z underlying68 sz23 z z hs143 u33.1 u33.2) z (TA.b 8 z (loadAll z ag66 sz66 z (i:=0) z z) z ?_)
   obtain ⟨p144,hz144,hm144⟩:=Zn.at zf123 (i:=((nth x0.arcs k124 Arc.zero).frm).toNat) (by omega)
   refine TA.actN [7,9] (by kernel_rfl) (an z z (OpVal.ok (loadN z ag23 z (q:=2) z hz144 hm144) z z ⟨(fun w h=>sees_of (Store.le.refl _) (fun r hr=>mem_pick [0,1] z hr) w h),?_⟩) (an z z (OpOk.lit (enc:=encArc) [(nth x0.arcs k124 Arc.zero)] z underlying23 sz66 ze66 z z z encArc_len (by decide) (by decide) Arc.zero z (by decide) z (by decide) encArc_one (fun a145 c146=>⟨(fun w h=>sees_of (Store.le.refl _) (fun r hr=>mem_pick [1,2] z hr) w h),?_⟩)) (True.intro)))
   ·skip
    refine TA.ac 9 z (OpOk.lit (enc:=encArc) [(nth x0.arcs k124 Arc.zero)] z underlying23 sz66 ze66 z z z encArc_len (by decide) (by decide) Arc.zero z (by decide) z (by decide) encArc_one (fun a148 c149=>⟨(fun w h=>sees_of (Store.le.refl _) (fun r hr=>mem_pick [1,2] z hr) w h),?_⟩))
    refine TA.front 3 z z (TA.by (fun w h=>Reach.takeN hz144 hm144 h) (TA.ac 10 z (appendS z z underlying23 sz66 by66 ze66 z z (by decide) z z z (.inr ⟨_,1,z⟩) (by simpa using u37) (by decide) (fun a152 c153=>(k3 ?_)))))
    refine TA.know (isSl_nestX (q:=1) z zf123) (fun ⟨hs154,hs154b⟩=> ?_)
    refine TA.b 11 z (OpVal.index z underlying68 sz23 z z hs154 u38.1 u38.2) z (TA.front 1 z z (TA.front 1 z z ?_))
    have hn156:(l120.set (((nth x0.arcs k124 Arc.zero).frm).toNat) ((nth l120 (((nth x0.arcs k124 Arc.zero).frm).toNat) ([]:List Arc))++[(nth x0.arcs k124 Arc.zero)])).length=(List.replicate x0.states.toNat ([]:List Arc)).length:=(List.length_set ..).trans hn121
    refine TA.ac 12 rfl (storeX (l':=((nth l120 (((nth x0.arcs k124 Arc.zero).frm).toNat) ([]:List Arc))++[(nth x0.arcs k124 Arc.zero)])) rfl sz23 rfl rfl rfl rfl rfl (by rw [zf123.len];omega) zf123 (fun zf155=>(k2 ?_)))
    exact TA.dn (B.n (S.n (cf ((),(z122.set (((nth x0.arcs k124 Arc.zero).frm).toNat) (((nth l120 (((nth x0.arcs k124 Arc.zero).frm).toNat) ([]:List Arc))++[(nth x0.arcs k124 Arc.zero)]),(a152,c153)))) ⟨hh,hn156,zf155⟩ (Sub.f [3] 2))))
   skip
   obtain ⟨p157,hz157,hm157⟩:=Zn.at zf123 (i:=((nth x0.arcs k124 Arc.zero).frm).toNat) (by omega)
   refine TA.ac 7 z (OpVal.ok (loadN z ag23 z (q:=3) z hz157 hm157) z z ⟨(fun w h=>sees_of (Store.le.refl _) (fun r hr=>mem_pick [1,2] z hr) w h),?_⟩)
   refine TA.front 3 z z (TA.by (fun w h=>Reach.takeN hz157 hm157 h) (TA.ac 10 z (appendS z z underlying23 sz66 by66 ze66 z z (by decide) z z z (.inr ⟨_,1,z⟩) (by simpa using u37) (by decide) (fun a159 c160=>(k3 ?_)))))
   refine TA.know (isSl_nestX (q:=1) z zf123) (fun ⟨hs161,hs161b⟩=> ?_)
   refine TA.b 11 z (OpVal.index z underlying68 sz23 z z hs161 u38.1 u38.2) z (TA.front 1 z z (TA.front 1 z z ?_))
   have hn163:(l120.set (((nth x0.arcs k124 Arc.zero).frm).toNat) ((nth l120 (((nth x0.arcs k124 Arc.zero).frm).toNat) ([]:List Arc))++[(nth x0.arcs k124 Arc.zero)])).length=(List.replicate x0.states.toNat ([]:List Arc)).length:=(List.length_set ..).trans hn121
   refine TA.ac 12 rfl (storeX (l':=((nth l120 (((nth x0.arcs k124 Arc.zero).frm).toNat) ([]:List Arc))++[(nth x0.arcs k124 Arc.zero)])) rfl sz23 rfl rfl rfl rfl rfl (by rw [zf123.len];omega) zf123 (fun zf162=>(k2 ?_)))
   exact TA.dn (B.n (S.n (cf ((),(z122.set (((nth x0.arcs k124 Arc.zero).frm).toNat) (((nth l120 (((nth x0.arcs k124 Arc.zero).frm).toNat) ([]:List Arc))++[(nth x0.arcs k124 Arc.zero)]),(a159,c160)))) ⟨hh,hn163,zf162⟩ (Sub.f [3] 2))))
  skip
  obtain ⟨_,z128⟩:=g
  obtain ⟨hh,hn127,zf129⟩:=hg
  try dsimp only at hn127 zf129 ⊢
  dsimp only [Fk_]at hh
  have hn127b:=hn127
  have zf129b:=zf129.len
  refine TC.know (isSl_nest (q:=1) z zf129) (fun ⟨_,hb164⟩=> ?_)
  refine TC.region (TL.w z (OpVal.succ z z z (by omega)) (TL.i z z (TL.en ?_)))
  obtain ⟨hh,hlt165⟩:=nxt_x hR1 hh
  exact lf (((l120.set (((nth x0.arcs k124 Arc.zero).frm).toNat) ((nth l120 (((nth x0.arcs k124 Arc.zero).frm).toNat) ([]:List Arc))++[(nth x0.arcs k124 Arc.zero)])),(k124+1)),z128) hlt165 ⟨hh,hn127,zf129⟩ (Sub.f [1,1] 2)
 refine TC.exit (S.x (S.x ?_))
 replace hh:=fin_x hR1 hh
 refine TC.exitHere (S.n (TC.a (TL.op z (makeMapB (enc:=(fun x=>Value.agg (encFPair x).toArray)) (encV:=unitV) z z z (fun b166=> ?_)))))
 refine TL.w z (moveMap (.inr z) z) (TL.en (TC.seq (TC.a (TL.w z (fieldLoc z fo25_1 z) (TL.w z (loadLoc z ag22 z (i:=1) z z) (TL.w z (lenC z underlying22 z) (TL.i z z (TL.en (TC.block (TC.loopG (α:=((FM FPair Unit)×Nat)×(Unit)) (rgs [(11,1),(55,12)]) (fun g=>[(55,.int .i64 ((g.1.2:Nat):Int))]) (fun g=>[Res.cells b101 #[.int .i64 x0.states,.slice a0_0 x0.starts.length c0_0,.slice a0_1 x0.ends.length c0_1,.slice a0_2 x0.arcs.length c0_2] 25,Res.nest 23 66 8 encArc (.slice a105 (List.replicate x0.states.toNat ([]:List Arc)).length c106) z122,Res.mapB (fun x=>Value.agg (encFPair x).toArray) unitV (some b166) g.1.1]) (fun g=>σ) (fun g=>iter (fun q:(FM FPair Unit)×Nat=>Bj_ x0 x1 l120 q.1 q.2) g.1=some r∧l120.length=(List.replicate x0.states.toNat ([]:List Arc)).length∧Zn z122 l120) (fun g=>rounds (fun q:(FM FPair Unit)×Nat=>Bj_ x0 x1 l120 q.1 q.2) g.1) (((FM.emp:FM FPair Unit),0),()) (Sub.f [2,2] 3) z (by repeat (first|exact trivial|refine ⟨z,?_⟩)) ⟨hh,hn121,zf123⟩ (fun g2 j2 hg2=> ?_)))))))))))
 obtain ⟨⟨m180,k181⟩,_⟩:=g2
 obtain ⟨hh,hn178,zf179⟩:=hg2
 try dsimp only at hn178 zf179 ⊢
 obtain ⟨z1,hh,hR1⟩:=iter_e hh
 dsimp only [Bj_]at hh
 have hn178b:=hn178
 have zf179b:=zf179.len
 refine TC.know (isSl_nest (q:=1) z zf179) (fun ⟨_,hb182⟩=> ?_)
 refine TC.a (TL.w z (OpVal.lss z z z) (TL.en (TC.seq (TC.cD z hh (fun h183 hh=> ?_) (fun h183 hh=> ?_)))))
 ·refine TC.skip (S.n (TC.seq (TC.block (TC.a (TL.w z (indexN z underlying22 sz43 z z f0_0.rv.sl (by omega)) (TL.w z (loadSA Tip.zero z ag43 sz43 z f0_0 (by omega) (by omega)) (TL.op z (OpOk.alloc z ze43 z z (fun b184=> ?_)))))))))
  refine TL.op z (storeAll z sz43 z z z z z z ?_)
  refine TL.en (TC.region (TL.w z (moveMap (.inl z) z) (TL.w z (fieldLoc z fo43_0 z) (TL.w z (loadLoc z ag3 z (i:=0) z z) (TL.w z (fieldLoc z fo43_1 z) (TL.w z (loadLoc z ag9 z (i:=0) z z) (TL.w z (buildL z pl84 ze84 z) (TL.w z (buildL z pl82 ze82 z) (TL.front 3 z z (TL.op z (updB (⟨(nth x0.starts k181 Tip.zero).state,(nth x0.starts k181 Tip.zero).out⟩:FPair) () z underlying81 z z z z kl84 ?_)))))))))))
  refine TL.nil (B.n (S.n (TC.region (TL.w z (OpVal.succ z z z (by omega)) (TL.i z z (TL.en ?_))))))
  obtain ⟨hh,hlt186⟩:=nxt_x hR1 hh
  exact lf (((m180.put (⟨(nth x0.starts k181 Tip.zero).state,(nth x0.starts k181 Tip.zero).out⟩:FPair) ()),(k181+1)),()) hlt186 ⟨hh,hn178,zf179⟩ (Sub.f [3,3] 3)
 refine TC.exit (S.x (S.x ?_))
 replace hh:=fin_x hR1 hh
 refine TC.exitHere (S.n (TC.seq (TC.a (TL.w z (moveStr (.inl z) z) (TL.w z (lenBs z underlying9 z) (TL.i z z (TL.en (TC.block ?_))))))))
 rw [←hn178]
 refine TC.front 1 z z (TC.seals (fun w h=>Reach.sealNest encArc_len zf179 h) (fun τ206 hle205 hr204=> ?_))
 replace f0_1:=f0_1.mono hle205
 have hr204b:=hr204.big
 refine TC.loopG (α:=((FM FPair Unit)×Nat)×((Option Nat)×Store)) (rgs [(4,2),(9,1),(12,3),(69,16)]) (fun g=>[(9,.map g.2.1),(69,.int .i64 ((g.1.2:Nat):Int))]) (fun g=>[Res.cells b101 #[.int .i64 x0.states,.slice a0_0 x0.starts.length c0_0,.slice a0_1 x0.ends.length c0_1,.slice a0_2 x0.arcs.length c0_2] 25,Res.mapB (fun x=>Value.agg (encFPair x).toArray) unitV g.2.1 g.1.1]) (fun g=>g.2.2) (fun g=>iter (fun q:(FM FPair Unit)×Nat=>A8_ x1 l120 x0 q.1 q.2) g.1=some r∧RZ g.2.2 (pkSl 8 encArc encArc_len) (.slice a105 l120.length c106) l120∧Store.le τ206 g.2.2) (fun g=>rounds (fun q:(FM FPair Unit)×Nat=>A8_ x1 l120 x0 q.1 q.2) g.1) ((m180,0),((some b166),τ206)) (Sub.f [1,1] 2) z (by repeat (first|exact trivial|refine ⟨z,?_⟩)) ⟨hh,hr204,(Store.le.refl _)⟩ (fun g3 j3 hg3=> ?_)
 obtain ⟨⟨m201,k203⟩,⟨b202,τ207⟩⟩:=g3
 obtain ⟨hh,hr199,hle208⟩:=hg3
 try dsimp only at hr199
 dsimp only at hle208
 replace f0_1:=f0_1.mono hle208
 try dsimp only
 obtain ⟨z1,hh,hR1⟩:=iter_e hh
 dsimp only [A8_]at hh
 have hr199b:=hr199.big
 refine TC.a (TL.w z (OpVal.lss z z z) (TL.en (TC.seq (TC.cD z hh (fun h209 hh=> ?_) (fun h209 hh=> ?_)))))
 ·refine TC.skip (S.n (TC.seq (TC.block (TC.a (TL.i z z (TL.i z z (TL.en (TC.a (TL.s z z (TL.w z (moveMap (.inl z) z) (TL.w z (moveStr (.inl z) z) (TL.i z z (TL.w z (indexBs z underlying9 z z (by omega)) (TL.front 1 z z ?_))))))))))))))
  obtain ⟨v74,u74,hh⟩:=bnd_e hh
  refine TL.op z (OpOk.call (G1_ hr199 u74) z z pf30 z z z z ?_)
  rintro _ _ _ hle210 ⟨b210_1,rfl,rfl,rfl⟩
  refine TL.w z (moveT (.inl z) z) (TL.w z (OpVal.extract z z z) (TL.w z (OpVal.extract z z z) (TL.w z (moveMap (.inr z) z) (TL.j z z (TL.en (TC.seq (TC.a (TL.j z z (TL.w z (OpVal.not z z) (TL.en (TC.cB z hh (fun h212 hh=> ?_) (fun h212 hh=> ?_))))))))))))
  ·refine TC.a (TL.s z z (TL.i z z (TL.en (TC.rt 0 (S.r (B.r (S.r (S.r ?_))))))))
   replace hh:=fin_x hR1 hh
   refine B.r (S.r ?_)
   obtain rfl:=so hh
   exact rq [4,5] ⟨none,0,z,(RS.nilF _ eS_ eSl_),z⟩
  refine TC.skip (S.n (TC.region (TL.w z (moveMap (.inl z) z) (TL.w z (moveMap (.inr z) z) (TL.nil (B.n (S.n (TC.region (TL.w z (OpVal.succ z z z (by omega)) (TL.i z z (TL.en ?_)))))))))))
  obtain ⟨hh,hlt213⟩:=nxt_x hR1 hh
  exact lf ((v74.1,(k203+1)),(b210_1,τ207)) hlt213 ⟨hh,hr199,hle208⟩ (Sub.f [1] 2)
 refine TC.exit (S.x (S.x ?_))
 replace hh:=fin_x hR1 hh
 refine TC.exitHere (S.n (TC.a (TL.w z (fieldLoc z fo25_0 z) (TL.w z (loadLoc z ag3 z (i:=0) z z) ?_))))
 have u90:=grd_c hh
 replace hh:=grd_t hh
 refine TL.op rfl (makeN (q:=x0.states.toNat) (E:=9) (size:=1) (enc:=eS_) rfl underlying87 sz31 by31 ze31 rfl rfl (vN u90.1) (vN u90.1) (by omega) (by decide) rfl (fun a214 c215 zf216=> ?_))
 refine TL.s z z (TL.en (TC.seq (TC.a (TL.w z (fieldLoc z fo25_2 z) (TL.w z (loadLoc z ag22 z (i:=1) z z) (TL.w z (lenC z underlying22 z) (TL.i z z (TL.en (TC.block (TC.loopG (α:=((List (List (List UInt8)))×Nat)×((List (NP (List UInt8))))) (rgs [(17,1),(91,18)]) (fun g=>[(91,.int .i64 ((g.1.2:Nat):Int))]) (fun g=>[Res.mapB (fun x=>Value.agg (encFPair x).toArray) unitV b202 m201,Res.nest 31 9 1 eS_ (.slice a214 (List.replicate x0.states.toNat ([]:List (List UInt8))).length c215) g.2]) (fun g=>τ207) (fun g=>iter (fun q:(List (List (List UInt8)))×Nat=>Bf_ x0 m201 q.1 q.2) g.1=some r∧g.1.1.length=(List.replicate x0.states.toNat ([]:List (List UInt8))).length∧Zn g.2 g.1.1) (fun g=>rounds (fun q:(List (List (List UInt8)))×Nat=>Bf_ x0 m201 q.1 q.2) g.1) (((List.replicate x0.states.toNat ([]:List (List UInt8))),0),(List.replicate x0.states.toNat (nilN:NP (List UInt8)))) (Sub.f [2] 2) z (by repeat (first|exact trivial|refine ⟨z,?_⟩)) ⟨hh,z,zf216⟩ (fun g4 j4 hg4=> ?_)))))))))))
 obtain ⟨⟨l229,k233⟩,z231⟩:=g4
 obtain ⟨hh,hn230,zf232⟩:=hg4
 try dsimp only at hn230 zf232 ⊢
 obtain ⟨z1,hh,hR1⟩:=iter_e hh
 dsimp only [Bf_]at hh
 have hn230b:=hn230
 have zf232b:=zf232.len
 refine TC.know (isSl_nest (q:=1) z zf232) (fun ⟨_,hb234⟩=> ?_)
 refine TC.a (TL.w z (OpVal.lss z z z) (TL.en (TC.seq (TC.cD z hh (fun h235 hh=> ?_) (fun h235 hh=> ?_)))))
 ·refine TC.skip (S.n (TC.cutG (α:=(Unit)×((List (NP (List UInt8))))) (rgs [(17,1),(93,15)]) (fun g=>[]) (fun g=>[Res.mapB (fun x=>Value.agg (encFPair x).toArray) unitV b202 m201,Res.nest 31 9 1 eS_ (.slice a214 (List.replicate x0.states.toNat ([]:List (List UInt8))).length c215) g.2]) (fun g=>τ207) (fun g=>Fj_ l229 x0 k233=some z1∧(l229.set (((nth x0.ends k233 Tip.zero).state).toNat) ((nth l229 (((nth x0.ends k233 Tip.zero).state).toNat) ([]:List (List UInt8)))++[(nth x0.ends k233 Tip.zero).out])).length=(List.replicate x0.states.toNat ([]:List (List UInt8))).length∧Zn g.2 (l229.set (((nth x0.ends k233 Tip.zero).state).toNat) ((nth l229 (((nth x0.ends k233 Tip.zero).state).toNat) ([]:List (List UInt8)))++[(nth x0.ends k233 Tip.zero).out]))) ?_ (fun g j hg=> ?_)))
  ·skip
   refine TC.block (TC.a (TL.w z (indexN z underlying22 sz43 z z f0_1.rv.sl (by omega)) (TL.w z (loadSA Tip.zero z ag43 sz43 z f0_1 (by omega) (by omega)) (TL.op z (OpOk.alloc z ze43 z z (fun b239=> ?_))))))
   refine TL.op z (storeAll z sz43 z z z z z z ?_)
   refine TL.en ?_
   have u107:=grd_c hh
   replace hh:=grd_t hh
   have u112:=grd_c hh
   replace hh:=grd_t hh
   have u113:=grd_c hh
   replace hh:=grd_t hh
   refine TC.drawR (Hr:=[Res.cells b239 #[.int .i64 ((nth x0.ends k233 Tip.zero).state),.string (bs ((nth x0.ends k233 Tip.zero).out))] 43,Res.mapB (fun x=>Value.agg (encFPair x).toArray) unitV b202 m201]) (fun r hr=>mem_pick [0,1] z hr) [] (by kernel_rfl) (TA.a 0 z (moveSl (.inl z) z) z (TA.a 1 z (fieldLoc z fo43_0 z) z (TA.b 2 z (loadLoc z ag3 z (i:=0) z z) z (TA.a 3 z (moveSl (.inl z) z) z (TA.a 4 z (fieldLoc z fo43_0 z) z (TA.b 5 z (loadLoc z ag3 z (i:=0) z z) z (TA.know (isSl_nest (q:=2) z zf232) (fun ⟨hs252,hs252b⟩=> ?_))))))))
   refine TA.b 6 z (OpVal.index z underlying87 sz31 z z hs252 u107.1 u107.2) z (TA.a 8 z (fieldLoc z fo43_1 z) z (TA.b 9 z (loadLoc z ag9 z (i:=0) z z) z ?_))
   obtain ⟨p253,hz253,hm253⟩:=Zn.at zf232 (i:=((nth x0.ends k233 Tip.zero).state).toNat) (by omega)
   refine TA.actN [7,10] (by kernel_rfl) (an z z (OpVal.ok (loadN z ag31 z (q:=2) z hz253 hm253) z z ⟨(fun w h=>sees_of (Store.le.refl _) (fun r hr=>mem_pick [0,1] z hr) w h),?_⟩) (an z z (OpOk.lit (enc:=eS_) [(nth x0.ends k233 Tip.zero).out] z underlying31 sz9 ze9 z z z eSl_ (by decide) (by decide) ([]:List UInt8) z (by decide) z (by decide) eSo_ (fun a254 c255=>⟨(fun w h=>sees_of (Store.le.refl _) (fun r hr=>mem_pick [1,2] z hr) w h),?_⟩)) (True.intro)))
   ·skip
    refine TA.ac 10 z (OpOk.lit (enc:=eS_) [(nth x0.ends k233 Tip.zero).out] z underlying31 sz9 ze9 z z z eSl_ (by decide) (by decide) ([]:List UInt8) z (by decide) z (by decide) eSo_ (fun a257 c258=>⟨(fun w h=>sees_of (Store.le.refl _) (fun r hr=>mem_pick [1,2] z hr) w h),?_⟩))
    refine TA.front 3 z z (TA.by (fun w h=>Reach.takeN hz253 hm253 h) (TA.ac 11 z (appendS z z underlying31 sz9 by9 ze9 z z (by decide) z z z (.inr ⟨_,1,z⟩) (by simpa using u112) (by decide) (fun a261 c262=>(k3 ?_)))))
    refine TA.know (isSl_nestX (q:=1) z zf232) (fun ⟨hs263,hs263b⟩=> ?_)
    refine TA.b 12 z (OpVal.index z underlying87 sz31 z z hs263 u113.1 u113.2) z (TA.front 1 z z (TA.front 1 z z ?_))
    have hn265:(l229.set (((nth x0.ends k233 Tip.zero).state).toNat) ((nth l229 (((nth x0.ends k233 Tip.zero).state).toNat) ([]:List (List UInt8)))++[(nth x0.ends k233 Tip.zero).out])).length=(List.replicate x0.states.toNat ([]:List (List UInt8))).length:=(List.length_set ..).trans hn230
    refine TA.ac 13 rfl (storeX (l':=((nth l229 (((nth x0.ends k233 Tip.zero).state).toNat) ([]:List (List UInt8)))++[(nth x0.ends k233 Tip.zero).out])) rfl sz31 rfl rfl rfl rfl rfl (by rw [zf232.len];omega) zf232 (fun zf264=>(k2 ?_)))
    exact TA.dn (B.n (S.n (cf ((),(z231.set (((nth x0.ends k233 Tip.zero).state).toNat) (((nth l229 (((nth x0.ends k233 Tip.zero).state).toNat) ([]:List (List UInt8)))++[(nth x0.ends k233 Tip.zero).out]),(a261,c262)))) ⟨hh,hn265,zf264⟩ (Sub.f [3] 2))))
   skip
   obtain ⟨p266,hz266,hm266⟩:=Zn.at zf232 (i:=((nth x0.ends k233 Tip.zero).state).toNat) (by omega)
   refine TA.ac 7 z (OpVal.ok (loadN z ag31 z (q:=3) z hz266 hm266) z z ⟨(fun w h=>sees_of (Store.le.refl _) (fun r hr=>mem_pick [1,2] z hr) w h),?_⟩)
   refine TA.front 3 z z (TA.by (fun w h=>Reach.takeN hz266 hm266 h) (TA.ac 11 z (appendS z z underlying31 sz9 by9 ze9 z z (by decide) z z z (.inr ⟨_,1,z⟩) (by simpa using u112) (by decide) (fun a268 c269=>(k3 ?_)))))
   refine TA.know (isSl_nestX (q:=1) z zf232) (fun ⟨hs270,hs270b⟩=> ?_)
   refine TA.b 12 z (OpVal.index z underlying87 sz31 z z hs270 u113.1 u113.2) z (TA.front 1 z z (TA.front 1 z z ?_))
   have hn272:(l229.set (((nth x0.ends k233 Tip.zero).state).toNat) ((nth l229 (((nth x0.ends k233 Tip.zero).state).toNat) ([]:List (List UInt8)))++[(nth x0.ends k233 Tip.zero).out])).length=(List.replicate x0.states.toNat ([]:List (List UInt8))).length:=(List.length_set ..).trans hn230
   refine TA.ac 13 rfl (storeX (l':=((nth l229 (((nth x0.ends k233 Tip.zero).state).toNat) ([]:List (List UInt8)))++[(nth x0.ends k233 Tip.zero).out])) rfl sz31 rfl rfl rfl rfl rfl (by rw [zf232.len];omega) zf232 (fun zf271=>(k2 ?_)))
   exact TA.dn (B.n (S.n (cf ((),(z231.set (((nth x0.ends k233 Tip.zero).state).toNat) (((nth l229 (((nth x0.ends k233 Tip.zero).state).toNat) ([]:List (List UInt8)))++[(nth x0.ends k233 Tip.zero).out]),(a268,c269)))) ⟨hh,hn272,zf271⟩ (Sub.f [3] 2))))
  skip
  obtain ⟨_,z237⟩:=g
  obtain ⟨hh,hn236,zf238⟩:=hg
  try dsimp only at hn236 zf238 ⊢
  dsimp only [Fj_]at hh
  have hn236b:=hn236
  have zf238b:=zf238.len
  refine TC.know (isSl_nest (q:=1) z zf238) (fun ⟨_,hb273⟩=> ?_)
  refine TC.region (TL.w z (OpVal.succ z z z (by omega)) (TL.i z z (TL.en ?_)))
  obtain ⟨hh,hlt274⟩:=nxt_x hR1 hh
  exact lf (((l229.set (((nth x0.ends k233 Tip.zero).state).toNat) ((nth l229 (((nth x0.ends k233 Tip.zero).state).toNat) ([]:List (List UInt8)))++[(nth x0.ends k233 Tip.zero).out])),(k233+1)),z237) hlt274 ⟨hh,hn236,zf238⟩ (Sub.f [1,1] 2)
 refine TC.exit (S.x (S.x ?_))
 replace hh:=fin_x hR1 hh
 refine TC.exitHere (S.n (TC.a (TL.s z z (TL.en (TC.seq (TC.a (TL.w z (moveMap (.inl z) z) (TL.op z (rangeB z underlying81 z z z (fun it275 l276 hl277=> ?_))))))))))
 refine TL.en (TC.block (TC.nilS 9 1 eS_ (TC.loopG (α:=((List (List UInt8)))×((Option Addr)×Nat×(List (FPair×Unit))×(Option (FPair×Unit)))) (rgs [(18,2),(21,1),(111,22)]) (fun g=>[(18,.slice g.2.1 g.1.length g.2.2.1)]) (fun g=>[Res.nest 31 9 1 eS_ (.slice a214 (List.replicate x0.states.toNat ([]:List (List UInt8))).length c215) z231,Res.rowS 9 1 eS_ (.slice g.2.1 g.1.length g.2.2.1) g.1,Res.rng (fun x=>Value.agg (encFPair x).toArray) unitV b202 it275 m201 g.2.2.2.1 g.2.2.2.2]) (fun g=>τ207) (fun g=>runA (fun (q:(List (List UInt8))) (oE:Option (FPair×Unit))=>Bh_ l229 q oE) g.2.2.2.1 g.1=some r∧l229.length=(List.replicate x0.states.toNat ([]:List (List UInt8))).length∧Zn z231 l229) (fun g=>List.length g.2.2.2.1) (([]:List (List UInt8)),(none,0,l276,none)) (Sub.f [1,1,2] 3) z (by repeat (first|exact trivial|refine ⟨z,?_⟩)) ⟨(runA_of hh hl277),hn230,zf232⟩ (fun g5 j5 hg5=> ?_))))
 obtain ⟨l299,⟨a300,c301,l302,o303⟩⟩:=g5
 obtain ⟨hh,hn296,zf297⟩:=hg5
 try dsimp only at hn296 zf297 ⊢
 have hn296b:=hn296
 have zf297b:=zf297.len
 refine TC.know (isSl_nest (q:=0) z zf297) (fun ⟨_,hb305⟩=> ?_)
 refine TC.isSl (i:=1) z (fun _ hb306 _=> ?_)
 refine TC.a (TL.front 2 z z (TL.op z (nextB (T:=0) z z z z z (fun hl307=> ?_) (fun l308 v120c l309 hl307=> ?_))))
 ·subst hl307
  obtain ⟨z1,hh,hR1⟩:=runA_end hh
  dsimp only [Bh_,optE_none]at hh
  refine TL.by (fun w h=>Reach.unrng h) (TL.w z (OpVal.extract z z z) (TL.en (TC.seq (TC.f z (TC.exit (S.x (S.x ?_)))))))
  replace hh:=finE_x hR1 hh
  refine TC.exitHere (S.n (TC.a (TL.s z z (TL.front 2 z z (TL.sealS eSl_ (fun τ312 hle311 hr310=> ?_))))))
  have hr310b:=hr310.rv.big
  obtain ⟨v148,u148,hh⟩:=bnd_e hh
  refine TL.op z (OpOk.call (Hp_ hr310 u148) z z pf31 z z z z ?_)
  rintro _ _ _ hle313 ⟨a313_1,c313_1,rfl,rfl,rfl⟩
  refine TL.s z z (TL.i z z (TL.en (TC.sealS eSl_ (fun τ317 hle316 hr315=> ?_))))
  have hr315b:=hr315.rv.big
  refine TC.rt 0 ?_
  obtain rfl:=so hh
  exact rq [4,5] ⟨a313_1,c313_1,z,hr315,z⟩
 subst hl307
 obtain ⟨z1,hh,hR1⟩:=runA_step hh
 dsimp only [Bh_,optE_some]at hh
 refine TL.w z (OpVal.extract z z z) (TL.en (TC.seq (TC.t z (TC.skip (S.n (TC.block (TC.a (TL.w z (OpVal.of (entryB z z (i:=0) z) (v':= .tuple #[.agg #[.int .i64 v120c.1.state,.string (bs v120c.1.out)],.agg #[]]) z) (TL.w z (OpVal.extract z z z) (TL.op z (OpOk.alloc z ze84 z z (fun b318=> ?_))))))))))))
 refine TL.op z (storeAll z sz84 z z z z z z ?_)
 refine TL.en (TC.a (TL.s z z (TL.w z (fieldLoc z fo84_0 z) (TL.w z (loadLoc z ag3 z (i:=0) z z) ?_))))
 have u129:=grd_c hh
 replace hh:=grd_t hh
 refine TL.know (isSl_nest (q:=2) z zf297) (fun ⟨hs320,hs320b⟩=> ?_)
 refine TL.w z (OpVal.index z underlying87 sz31 z z hs320 u129.1 u129.2) ?_
 obtain ⟨p321,hz321,hm321⟩:=Zn.at zf297 (i:=v120c.1.state.toNat) (by omega)
 refine TL.w z (loadN z ag31 z (q:=2) z hz321 hm321) (TL.w z (lenC z underlying31 z) (TL.i z z (TL.en (TC.block (TC.loopG (α:=((List (List UInt8))×Nat)×((Option Addr)×Nat)) (rgs [(18,1),(21,1),(121,12)]) (fun g=>[(18,.slice g.2.1 g.1.1.length g.2.2),(121,.int .i64 ((g.1.2:Nat):Int))]) (fun g=>[Res.nest 31 9 1 eS_ (.slice a214 (List.replicate x0.states.toNat ([]:List (List UInt8))).length c215) z231,Res.rowS 9 1 eS_ (.slice g.2.1 g.1.1.length g.2.2) g.1.1,Res.cells b318 #[.int .i64 v120c.1.state,.string (bs v120c.1.out)] 84,Res.rng (fun x=>Value.agg (encFPair x).toArray) unitV b202 it275 m201 (l308++l309) (some v120c)]) (fun g=>τ207) (fun g=>iter (fun q:(List (List UInt8))×Nat=>Bi_ l229 v120c q.1 q.2) g.1=some z1∧l229.length=(List.replicate x0.states.toNat ([]:List (List UInt8))).length∧Zn z231 l229) (fun g=>rounds (fun q:(List (List UInt8))×Nat=>Bi_ l229 v120c q.1 q.2) g.1) ((l299,0),(a300,c301)) (Sub.f [1,1,3,3] 4) z (by repeat (first|exact trivial|refine ⟨z,?_⟩)) ⟨hh,hn296,zf297⟩ (fun g6 j6 hg6=> ?_))))))
 obtain ⟨⟨l338,k341⟩,⟨a339,c340⟩⟩:=g6
 obtain ⟨hh,hn336,zf337⟩:=hg6
 try dsimp only at hn336 zf337 ⊢
 obtain ⟨z2,hh,hR2⟩:=iter_e hh
 dsimp only [Bi_]at hh
 have hn336b:=hn336
 have zf337b:=zf337.len
 refine TC.know (isSl_nest (q:=0) z zf337) (fun ⟨_,hb342⟩=> ?_)
 refine TC.isSl (i:=1) z (fun _ hb343 _=> ?_)
 refine TC.a (TL.w z (OpVal.lss z z z) (TL.en (TC.seq (TC.cD z hh (fun h344 hh=> ?_) (fun h344 hh=> ?_)))))
 ·refine TC.skip (S.n (TC.seq (TC.block (TC.a (TL.know (isSl_inner (q:=0) z hz321 hm321) (fun ⟨hs345,hs345b⟩=> ?_))))))
  refine TL.w z (indexN z underlying31 sz9 z z hs345 (by omega)) (TL.w z (OpVal.seen (sees_inner (q:=0) z hz321 hm321) (loadO1 ([]:List UInt8) z ag9 z (q:=0) z eSl_ (by omega) z)) (TL.w z (moveStr (.inr z) z) (TL.en (TC.region (TL.s z z (TL.w z (fieldLoc z fo84_1 z) (TL.w z (loadLoc z ag9 z (i:=2) z z) (TL.w z (moveStr (.inl z) z) ?_))))))))
  have u141:=grd_c hh
  replace hh:=grd_t hh
  refine TL.w z (catBs z z z u141) (TL.op z (OpOk.lit (enc:=eS_) [(v120c.1.out++(nth (nth l229 v120c.1.state.toNat ([]:List (List UInt8))) k341 ([]:List UInt8)))] z underlying31 sz9 ze9 z z z eSl_ (by decide) (by decide) ([]:List UInt8) z (by decide) z (by decide) eSo_ (fun a346 c347=> ?_)))
  refine TL.front 2 z z ?_
  have u143:=grd_c hh
  replace hh:=grd_t hh
  refine TL.op z (appendS z z underlying31 sz9 by9 ze9 z z (by decide) z z z (.inr ⟨_,0,z⟩) (by simpa using u143) (by decide) (fun a349 c350=> ?_))
  refine TL.s z z (TL.nil (B.n (S.n (TC.region (TL.w z (OpVal.succ z z z (by omega)) (TL.i z z (TL.en ?_)))))))
  obtain ⟨hh,hlt351⟩:=nxt_x hR2 hh
  exact lf (((l338++[(v120c.1.out++(nth (nth l229 v120c.1.state.toNat ([]:List (List UInt8))) k341 ([]:List UInt8)))]),(k341+1)),(a349,c350)) hlt351 ⟨hh,hn336,zf337⟩ (Sub.f [4,4,2,4] 4)
 refine TC.exit (S.x (S.x ?_))
 replace hh:=fin_x hR2 hh
 refine TC.exitHere (B.n (S.n ?_))
 replace hh:=nxtA_x hR1 hh
 exact lf (l338,(a339,c340,(l308++l309),(some v120c))) (by simp) ⟨hh,hn336,zf337⟩ (Sub.f [3,2,2] 3)
end Go.Proofs.YtamgjehhjkgelaaGreatDoor
end

noncomputable section
namespace Go.Proofs.YtamgjehhjkgelaaGreatDoor
open Go Go.E Go.E.OpVal Go.E.OpOk Go.Proofs.Tryz
def Ao_(x0:List (List UInt8))(x1:List (List UInt8))(k104:Nat):Option ((Nat)⊕(Bool)):=
 iteO (decide (((k104:Nat):Int)<((x0.length:Nat):Int))) (grd (k104<x1.length) (iteO (decide ((nth x0 k104 ([]:List UInt8))≠(nth x1 k104 ([]:List UInt8)))) (fin (some false)) (nxt (k104+1)))) (fin (some true))
def Au_(x0:List (List UInt8))(x1:List (List UInt8)):Option (Bool):=
 iteO (decide (((x0.length:Nat):Int)≠((x1.length:Nat):Int))) (some false) (iter (fun q:Nat=>Ao_ x0 x1 q) 0)
theorem Dd_{x0:List (List UInt8)}{x1:List (List UInt8)}(f0_0:RS σ 1 eS_ (.slice a0_0 x0.length c0_0) x0)(f1_0:RS σ 1 eS_ (.slice a1_0 x1.length c1_0) x1){r:Bool}(hh:Au_ x0 x1=some r):
  Con Tryz.prog 12 #[.slice a0_0 x0.length c0_0,.slice a1_0 x1.length c1_0] σ [] (PureP (.bool r) σ):=by
 dsimp only [Au_]at hh
 have f0_0b:=f0_0.rv.big
 have f1_0b:=f1_0.rv.big
 refine Con.mk (n:=26) Tryz.func12 z z z (fun w0=> ?_)
 refine TC.a (TL.j z z (TL.en (TC.seq (TC.a (TL.s z z (TL.w z (lenC z underlying31 z) (TL.s z z (TL.w z (lenC z underlying31 z) (TL.w z (OpVal.neq z z z) (TL.en (TC.cD z hh (fun h101 hh=> ?_) (fun h101 hh=> ?_))))))))))))
 ·refine TC.a (TL.j z z (TL.en (TC.ret (S.r ?_))))
  obtain rfl:=so hh
  exact rq [4] ⟨z,z,z⟩
 refine TC.skip (S.n (TC.seq (TC.a (TL.i z z (TL.en (TC.block (TC.loopG (α:=(Nat)×(Unit)) (rgs [(4,2),(11,15)]) (fun g=>[(5,.int .i64 ((g.1:Nat):Int))]) (fun g=>[]) (fun g=>σ) (fun g=>iter (fun q:Nat=>Ao_ x0 x1 q) g.1=some r) (fun g=>rounds (fun q:Nat=>Ao_ x0 x1 q) g.1) (0,()) (Sub.pre 0 z) z (by repeat (first|exact trivial|refine ⟨z,?_⟩)) hh (fun g1 j1 hg1=> ?_))))))))
 obtain ⟨k104,_⟩:=g1
 have hh:=hg1;clear hg1
 try dsimp only
 obtain ⟨z1,hh,hR1⟩:=iter_e hh
 dsimp only [Ao_]at hh
 refine TC.seq (TC.a (TL.i z z (TL.s z z (TL.w z (lenC z underlying31 z) (TL.w z (OpVal.lss z z z) (TL.en (TC.cD z hh (fun h105 hh=> ?_) (fun h105 hh=> ?_))))))))
 ·refine TC.skip (S.n (TC.seq (TC.block (TC.seq ?_))))
  have u19:=grd_c hh
  replace hh:=grd_t hh
  refine TC.draw [] (by kernel_rfl) (TA.a 0 z (moveSl (.inl z) z) z (TA.a 1 z (moveI (.inl z) z) z (TA.b 2 z (indexN z underlying31 sz9 z z f0_0.rv.sl (by omega)) z (TA.b 3 z (loadS1 ([]:List UInt8) z ag9 z f0_0 (by omega) z) z (TA.a 4 z (moveSl (.inl z) z) z (TA.a 5 z (moveI (.inl z) z) z (TA.b 6 z (indexN z underlying31 sz9 z z f1_0.rv.sl (by omega)) z (TA.b 7 z (loadS1 ([]:List UInt8) z ag9 z f1_0 (by omega) z) z (TA.a 8 z (neqBs z z z) z (TA.dn (S.n (TC.cD z hh (fun h106 hh=> ?_) (fun h106 hh=> ?_)))))))))))))
  ·refine TC.a (TL.j z z (TL.en (TC.ret (B.r (S.r (S.r ?_))))))
   replace hh:=fin_x hR1 hh
   refine B.r (S.r ?_)
   obtain rfl:=so hh
   exact rq [4] ⟨z,z,z⟩
  refine TC.skip (B.n (S.n (TC.region (TL.i z z (TL.w z (OpVal.succ z z z (by omega)) (TL.i z z (TL.en ?_)))))))
  obtain ⟨hh,hlt107⟩:=nxt_x hR1 hh
  exact lf ((k104+1),()) hlt107 hh (Sub.pre 0 z)
 refine TC.exit (S.x (S.x ?_))
 replace hh:=fin_x hR1 hh
 refine TC.exitHere (S.n (TC.a (TL.j z z (TL.en (TC.ret ?_)))))
 obtain rfl:=so hh
 exact rq [4] ⟨z,z,z⟩
end Go.Proofs.YtamgjehhjkgelaaGreatDoor
end

noncomputable section
namespace Go.Proofs.YtamgjehhjkgelaaGreatDoor
open Go Go.E
section
variable {α:Type} [DecidableEq α] (d:α)
def ddN(l:List α):Nat→List α
  |0=>[]
  |n+1=>ddN l n++(if n=0∨nth l n d≠nth l (n - 1) d then [nth l n d] else [])
theorem mem_ddN(l:List α): ∀n,n≤l.length→ ∀x,x∈ddN d l n↔x∈l.take n
  |0,_,x=>by simp [ddN]
  | n + 1, h, x => by
    rw [ddN,take_snoc l (by omega) d,List.mem_append,List.mem_append,mem_ddN l n (by omega)]
    by_cases hc:n=0∨nth l n d≠nth l (n - 1) d
    · rw [if_pos hc]
    rw [if_neg hc]
    simp only [not_or,ne_eq,Decidable.not_not]at hc
    have:nth l n d∈l.take n:=by
      rw [hc.2]
      have h1:(l.take n)[n - 1]? =some (nth l (n - 1) d):=by rw [List.getElem?_take,if_pos (by omega)];exact getD_some l (by omega) d
      exact List.mem_of_getElem? h1
    constructor
    · rintro (h|h)
      · exact .inl h
      cases h
    rintro (h|h)
    · exact .inl h
    rw [List.mem_singleton.1 h];exact .inl this
theorem nth_set_ne{l:List α}{k i:Nat}{v:α}(h:i≠k):nth (l.set k v) i d=nth l i d:=by
  simp [nth,List.getD,List.getElem?_set,Ne.symm h]
include d in
theorem take_set_succ{l:List α}{k:Nat}{v:α}(h:k<l.length):(l.set k v).take (k+1)=l.take k++[v]:=by
  rw [take_snoc (l.set k v) (by simpa using h) d]
  congr 1
  · rw [List.take_set_of_le (Nat.le_refl _)]
  simp [nth,List.getD,h]
def gC_j(k125:Nat)(l128:List α)(k130:Nat):Option ((List α×Nat×Nat)⊕(Nat⊕List α)):=
  nxt (l128,k130,(k125+1))
def gC_b2(x0:List α)(k105:Nat)(l122:List α)(k124:Nat)(k125:Nat):Option ((List α×Nat×Nat)⊕(Nat⊕List α)):=
  iteO (decide (((k125:Nat):Int)<(((x0.length - k105):Nat):Int))) (grd (k125<(x0.length - k105)) (grd (0≤(IntKind.i64.wrap (((k125:Nat):Int) - 1))∧(IntKind.i64.wrap (((k125:Nat):Int) - 1))<((x0.length - k105):Nat)) (iteO (decide (¬ ((nth l122 (k105+k125) d)=(nth l122 (k105+(IntKind.i64.wrap (((k125:Nat):Int) - 1)).toNat) d)))) (grd (k125<(x0.length - k105)) (grd (k124<l122.length) (gC_j k125 (l122.set k124 (nth l122 (k105+k125) d)) (k124+1)))) (gC_j k125 l122 k124)))) (fin (grd (k124≤x0.length) (grd (k124≤(l122.take k124++List.replicate (l122.length - k124) d).length) (fin (some ((l122.take k124++List.replicate (l122.length - k124) d).take k124))))))
def gC_b1(x0:List α)(k105:Nat):Option ((Nat)⊕(List α)):=
  iteO (decide (((k105:Nat):Int)<((x0.length:Nat):Int))) (grd (0≤(IntKind.i64.wrap (((k105:Nat):Int) - 1))∧(IntKind.i64.wrap (((k105:Nat):Int) - 1))<(x0.length:Int)) (iteO (decide ((nth x0 k105 d)=(nth x0 ((IntKind.i64.wrap (((k105:Nat):Int) - 1)).toNat) d))) (grd (k105≤x0.length) (iter (fun q:(List α)×Nat×Nat=>gC_b2 d x0 k105 q.1 q.2.1 q.2.2) (x0,k105,1))) (nxt (k105+1)))) (fin (some x0))
def gC(x0:List α):Option (List α):=
  iteO (decide (((x0.length:Nat):Int)<2)) (some x0) (iter (fun q:Nat=>gC_b1 d x0 q) 1)
theorem wrap_pred{k:Nat}(h1:1≤k)(h2:k≤281474976710656):IntKind.i64.wrap ((k:Int) - 1)=((k - 1:Nat):Int):=by
  rw [wrap64_of (by omega) (by omega)];omega
theorem gC_in {l : List α} (hl : l.length ≤ 281474976710656) {k0 : Nat} (h0 : 1 ≤ k0) (hk : k0 < l.length) (he : nth l k0 d = nth l (k0 - 1) d) (hd : ddN d l k0 = l.take k0) :
    iter (fun q:(List α)×Nat×Nat=>gC_b2 d l k0 q.1 q.2.1 q.2.2) (l,k0,1)=some (.inr (ddN d l l.length)):=by
  refine Exists.elim (iter_run (step:=fun q:(List α)×Nat×Nat=>gC_b2 d l k0 q.1 q.2.1 q.2.2)
    (fun q=>1≤q.2.2∧k0+q.2.2≤l.length∧q.1.length=l.length∧q.2.1≤k0+q.2.2 - 1∧(∀i,k0+q.2.2 - 1≤i→nth q.1 i d=nth l i d)∧q.1.take q.2.1=ddN d l (k0+q.2.2))
    (fun r=>r= .inr (ddN d l l.length)) (fun q=>l.length - q.2.2) ?_ (l,k0,1) ⟨Nat.le_refl _,hk,rfl,by simp only;omega,fun _ _=>rfl,?_⟩) (fun r hr=>by rw [hr.1,hr.2])
  · rintro ⟨l2,k,j⟩ ⟨hj,hjl,hlen,hkj,hI,ht⟩
    simp only at hj hjl hlen hkj hI ht
    have hw:IntKind.i64.wrap ((j:Int) - 1)=((j - 1:Nat):Int):=wrap_pred hj (by omega)
    by_cases hlt:k0+j<l.length
    · left
      have e1:=hI (k0+j) (by omega)
      have e2:=hI (k0+(j - 1)) (by omega)
      simp only [gC_b2,hw,Int.toNat_natCast,decide_eq_true (show ((j:Nat):Int)<((l.length - k0:Nat):Int) by omega),iteO_true,
        grd_mk (show j<l.length - k0 by omega),grd_mk (show (0:Int)≤((j - 1:Nat):Int)∧((j - 1:Nat):Int)<((l.length - k0:Nat):Int) by omega),e1,e2]
      have e3:k0+(j - 1)=k0+j - 1:=by omega
      by_cases hc:nth l (k0+j) d=nth l (k0+(j - 1)) d
      · simp only [hc,not_true_eq_false,decide_false,iteO_false,gC_j]
        refine ⟨_,rfl,⟨by simp only;omega,by simp only;omega,hlen,by simp only;omega,fun i hi=>hI i (by simp only at hi;omega),?_⟩,by simp only;omega⟩
        simp only
        rw [ht,←Nat.add_assoc,ddN,if_neg,List.append_nil]
        rw [hc,e3];simp;omega
      simp only [hc,not_false_eq_true,decide_true,iteO_true,grd_mk (show k<l2.length by omega),gC_j]
      refine ⟨_,rfl,⟨by simp only;omega,by simp only;omega,by simp only [List.length_set];exact hlen,by simp only;omega,fun i hi=> ?_,?_⟩,by simp only;omega⟩
      · simp only at hi ⊢
        rw [nth_set_ne d (by omega)];exact hI i (by omega)
      simp only
      rw [take_set_succ d (by omega),ht,←Nat.add_assoc,ddN,if_pos]
      rw [e3]at hc;exact .inr hc
    right
    have hjl':k0+j=l.length:=by omega
    have hkl:(l2.take k).length=k:=by rw [List.length_take];omega
    refine ⟨.inr (ddN d l l.length),?_,rfl⟩
    simp only [gC_b2,decide_eq_false (show ¬ ((j:Nat):Int)<((l.length - k0:Nat):Int) by omega),iteO_false,grd_mk (show k≤l.length by omega)]
    rw [grd_mk (by rw [List.length_append,hkl];omega),List.take_append_of_le_length (by omega),List.take_of_length_le (by omega),ht,hjl']
    rfl
  simp only
  rw [ddN,if_neg (by rw [he];simp;omega),List.append_nil,hd]
theorem gC_eq {l : List α} (hl : l.length ≤ 281474976710656) : gC d l = some (ddN d l l.length) := by
  unfold gC
  by_cases h2:l.length<2
  · rw [decide_eq_true (by omega),iteO_true]
    match l,h2 with
    |[],_=>rfl
    |[x],_=>rfl
  rw [decide_eq_false (by omega),iteO_false]
  refine Exists.elim (iter_run (step:=fun q:Nat=>gC_b1 d l q) (fun k=>1≤k∧k≤l.length∧ddN d l k=l.take k) (fun r=>r=ddN d l l.length) (fun k=>l.length - k) ?_ 1 ⟨Nat.le_refl _,by omega,?_⟩) (fun r hr=>by rw [hr.1,hr.2])
  · rintro k ⟨h1,hk,hd⟩
    by_cases hlt:k<l.length
    · simp only [gC_b1,wrap_pred h1 (show k≤281474976710656 by omega),Int.toNat_natCast,decide_eq_true (show ((k:Nat):Int)<((l.length:Nat):Int) by omega),iteO_true,
        grd_mk (show (0:Int)≤((k - 1:Nat):Int)∧((k - 1:Nat):Int)<(l.length:Int) by omega)]
      by_cases hc:nth l k d=nth l (k - 1) d
      · right
        simp only [hc,decide_true,iteO_true,grd_mk hk]
        exact ⟨_,gC_in d hl h1 hlt hc hd,rfl⟩
      left
      simp only [hc,decide_false,iteO_false]
      refine ⟨k+1,rfl,⟨by omega,by omega,?_⟩,by omega⟩
      rw [ddN,if_pos (.inr hc),hd,take_snoc l hlt d]
    right
    have:k=l.length:=by omega
    refine ⟨l,?_,?_⟩
    · simp only [gC_b1,decide_eq_false (show ¬ ((k:Nat):Int)<((l.length:Nat):Int) by omega),iteO_false];rfl
    rw [←this,hd,List.take_of_length_le (by omega)]
  rw [ddN,if_pos (.inl rfl),take_snoc l (by omega) d];simp [ddN]
end
def onceL{α:Type}[DecidableEq α](d:α)(cf:α→α→Int)(l:List α):List α:=ddN d (sortL cf l) l.length
section
variable {α:Type} [DecidableEq α] {d:α} {cf:α→α→Int}
theorem Ca_(l:List α):(sortL cf l).length=l.length:=List.length_mergeSort _
theorem mem_onceL{l:List α}{x:α}:x∈onceL d cf l↔x∈l:=by
  have h:=Ca_ (cf:=cf) l
  rw [onceL,mem_ddN d _ _ (by omega),List.take_of_length_le (by omega),sortL,List.mem_mergeSort]
theorem GoodCmp.le_trans(hc:GoodCmp cf){x y z:α}(h1: ¬ cf y x<0)(h2: ¬ cf z y<0): ¬ cf z x<0:=fun h3=>by
  by_cases e:x=y
  · subst e;exact h2 h3
  by_cases e':y=z
  · subst e';exact h1 h3
  have a:=hc.anti y x;have b:=hc.anti z y;have a':=hc.eq y x;have b':=hc.eq z y
  have h4:cf y z<0:=by
    rw [hc.anti]
    have:cf z y≠0:=fun h=>e' ((b'.1 h).symm)
    omega
  exact h1 (hc.trans _ _ _ h4 h3)
theorem Fd_(hc:GoodCmp cf)(l:List α):(sortL cf l).Pairwise fun x y=> ¬ cf y x<0:=by
  have:=List.pairwise_mergeSort (le:=fun x y=> !decide (cf y x<0)) (fun a b c h1 h2=>by
    simp only [Bool.not_eq_true',decide_eq_false_iff_not]at *
    exact hc.le_trans h1 h2) (fun a b=>by
    have:=hc.anti a b
    simp only [Bool.or_eq_true,Bool.not_eq_true',decide_eq_false_iff_not];omega) l
  exact this.imp fun h=>by simpa using h
theorem sorted_onceL (hc : GoodCmp cf) (l : List α) : (onceL d cf l).Pairwise fun x y => cf x y < 0 := by
  have hs:=Fd_ hc l
  have hlen:=Ca_ (cf:=cf) l
  unfold onceL
  generalize sortL cf l=s at hs hlen
  have key: ∀n,n≤s.length→(ddN d s n).Pairwise fun x y=>cf x y<0:=by
    intro n
    induction n with
    |zero=>intro _;exact List.Pairwise.nil
    |succ n ih=>
      intro h
      rw [ddN]
      split
      · rename_i hn
        rw [List.pairwise_append]
        refine ⟨ih (by omega),List.pairwise_singleton ..,fun x hx y hy=> ?_⟩
        rw [List.mem_singleton.1 hy]
        rw [mem_ddN d s n (by omega)]at hx
        have hn0:n≠0:=fun e=>by subst e;simp at hx
        have hne:nth s n d≠nth s (n - 1) d:=by rcases hn with h|h;exact absurd h hn0;exact h
        obtain ⟨i,hi,hxi⟩:=List.mem_iff_getElem.1 hx
        have hi':i<n:=by simp at hi;omega
        have hxi:s[i]'(by omega)=x:=by rw [←hxi,List.getElem_take]
        have hp:=List.pairwise_iff_getElem.1 hs
        have eN: ∀{k:Nat} (hk:k<s.length),nth s k d=s[k]:=fun hk=>by simp [nth,List.getD,hk]
        rw [eN (by omega),eN (by omega)]at hne
        rw [eN (by omega)]
        have h1:cf (s[n - 1]'(by omega)) (s[n]'(by omega))<0:=by
          have:=hp (n - 1) n (by omega) (by omega) (by omega)
          have a:=hc.anti (s[n - 1]'(by omega)) (s[n]'(by omega))
          have b:=hc.eq (s[n]'(by omega)) (s[n - 1]'(by omega))
          have:cf (s[n]'(by omega)) (s[n - 1]'(by omega))≠0:=fun h=>hne (b.1 h)
          omega
        by_cases hin:i=n - 1
        · subst hin;rw [←hxi];exact h1
        have h2:=hp i (n - 1) (by omega) (by omega) (by omega)
        rw [hxi]at h2
        by_cases e:x=s[n - 1]'(by omega)
        · rw [e];exact h1
        refine hc.trans _ _ _ ?_ h1
        have a:=hc.anti x (s[n - 1]'(by omega))
        have b:=hc.eq (s[n - 1]'(by omega)) x
        have:cf (s[n - 1]'(by omega)) x≠0:=fun h=>e (b.1 h).symm
        omega
      rw [List.append_nil];exact ih (by omega)
  exact key _ (by omega)
theorem rising_ext{R:α→α→Prop}(hi: ∀x, ¬ R x x)(ht: ∀x y z,R x y→R y z→R x z): ∀{l m:List α},l.Pairwise R→m.Pairwise R→(∀x,x∈l↔x∈m)→l=m
  |[],[],_,_,_=>rfl
  |[],y::m,_,_,h=>by have:=(h y).2 (List.mem_cons_self ..);cases this
  |x::l,[],_,_,h=>by have:=(h x).1 (List.mem_cons_self ..);cases this
  | x :: l, y :: m, hl, hm, h => by
    rw [List.pairwise_cons]at hl hm
    have e:x=y:=by
      have h1:=(h x).1 (List.mem_cons_self ..)
      have h2:=(h y).2 (List.mem_cons_self ..)
      rw [List.mem_cons]at h1 h2
      rcases h1 with h1|h1
      · exact h1
      rcases h2 with h2|h2
      · exact h2.symm
      exact absurd (ht _ _ _ (hm.1 x h1) (hl.1 y h2)) (hi y)
    subst e
    rw [rising_ext hi ht hl.2 hm.2 fun z=> ?_]
    have:=h z
    simp only [List.mem_cons]at this
    constructor
    · intro hz
      rcases this.1 (.inr hz)with e|h'
      · subst e;exact absurd (hl.1 z hz) (hi z)
      exact h'
    intro hz
    rcases this.2 (.inr hz)with e|h'
    · subst e;exact absurd (hm.1 z hz) (hi z)
    exact h'
theorem GoodCmp.irr(hc:GoodCmp cf)(x:α): ¬ cf x x<0:=by have:=(hc.eq x x).2 rfl;omega
theorem rising_eq(hc:GoodCmp cf){l m:List α}(hl:l.Pairwise fun x y=>cf x y<0)(hm:m.Pairwise fun x y=>cf x y<0)(h: ∀x,x∈l↔x∈m):l=m:=
  rising_ext (R:=fun x y=>cf x y<0) hc.irr hc.trans hl hm h
theorem Ha_(hc:GoodCmp cf){l m:List α}(h: ∀x,x∈l↔x∈m):onceL d cf l=onceL d cf m:=
  rising_eq hc (sorted_onceL hc l) (sorted_onceL hc m) fun x=>by rw [mem_onceL,mem_onceL,h]
theorem Hw_(hc:GoodCmp cf){l:List α}(h:l.Pairwise fun x y=>cf x y<0):onceL d cf l=l:=rising_eq hc (sorted_onceL hc l) h fun x=>mem_onceL
theorem Gb_(l:List α):(onceL d cf l).length≤l.length:=by
  have h: ∀(s:List α) n,(ddN d s n).length≤n:=fun s n=>by
    induction n with
    |zero=>exact Nat.le_refl _
    |succ n ih=>rw [ddN,List.length_append];split<;>simp<;>omega
  exact h _ _
end
end Go.Proofs.YtamgjehhjkgelaaGreatDoor
end

noncomputable section
namespace Go.Proofs.YtamgjehhjkgelaaGreatDoor
open Go Go.E
theorem Hj_:compactS=gC ([]:List UInt8):=rfl
theorem Hm_:compactT=gC Tip.zero:=rfl
theorem He_:compactA=gC Arc.zero:=rfl
theorem Hz_{l:List (List UInt8)}(h:l.length * 16≤140737488355328):onceS l=some (onceL [] Lib.compareBytes l):=by
  rw [onceS,grd_mk h,Hj_,gC_eq [] (by rw [Ca_];omega),Ca_];rfl
theorem Gs_{l:List Tip}(h:l.length * 24≤140737488355328):onceT l=some (onceL Tip.zero cmpTip l):=by
  rw [onceT,grd_mk h,Hm_,gC_eq Tip.zero (by rw [Ca_];omega),Ca_];rfl
theorem Hv_{l:List Arc}(h:l.length * 72≤140737488355328):onceA l=some (onceL Arc.zero cmpArc l):=by
  rw [onceA,grd_mk h,He_,gC_eq Arc.zero (by rw [Ca_];omega),Ca_];rfl
end Go.Proofs.YtamgjehhjkgelaaGreatDoor
end

noncomputable section
namespace Go.E
open Go
section
variable {K:Type} [DecidableEq K]
theorem len_of_sub: ∀{l m:List K},l.Nodup→(∀x∈l,x∈m)→l.length≤m.length
  |[],m,_,_=>Nat.zero_le _
  | x :: l, m, hn, hs => by
    rw [List.nodup_cons]at hn
    have hx:=hs x (List.mem_cons_self ..)
    have:=len_of_sub (m:=m.erase x) hn.2 fun y hy=>by
      have h1:=hs y (List.mem_cons_of_mem _ hy)
      refine (List.mem_erase_of_ne ?_).2 h1
      intro e;subst e;exact hn.1 hy
    rw [List.length_erase_of_mem hx]at this
    have hp:=List.length_pos_of_mem hx
    simp only [List.length_cons];omega
def FM.ofL(S:List K):FM K Unit:=S.foldl (fun m k=>m.put k ()) FM.emp
theorem FM.ofL_snoc(S:List K)(k:K):FM.ofL (S++[k])=(FM.ofL S).put k ():=by simp [FM.ofL]
theorem FM.ofL_f(S:List K)(x:K):(FM.ofL S).f x=if x∈S then some () else none:=by
  have key: ∀(S:List K) (m:FM K Unit),(S.foldl (fun m k=>m.put k ()) m).f x=if x∈S then some () else m.f x:=by
    intro S
    induction S with
    |nil=>intro m;simp
    |cons y S ih=>
      intro m
      rw [List.foldl_cons,ih]
      by_cases h:x∈S
      · simp [h]
      by_cases e:x=y
      · subst e;simp [FM.put]
      simp [h,FM.put,e]
  rw [FM.ofL,key];rfl
def card(S:List K):Nat:=(FM.ofL S).n
theorem rev_ind{p:List K→Prop}(h0:p [])(h1: ∀l x,p l→p (l++[x]))(l:List K):p l:=by
  have: ∀m:List K,p m.reverse:=fun m=>by
    induction m with
    |nil=>exact h0
    |cons x m ih=>rw [List.reverse_cons];exact h1 _ _ ih
  simpa using this l.reverse
theorem FM.ofL_len (S : List K) : ∃ l : List K, l.Nodup ∧ (∀ x, x ∈ l ↔ x ∈ S) ∧ l.length = card S := by
  induction S using rev_ind with
  |h0=>exact ⟨[],List.nodup_nil,by simp,rfl⟩
  |h1 S k ih=>
    obtain ⟨l,h1,h2,h3⟩:=ih
    have hf:=FM.ofL_f S k
    by_cases hk:k∈S
    · refine ⟨l,h1,fun x=> ?_,?_⟩
      · rw [h2,List.mem_append,List.mem_singleton]
        constructor
        · exact .inl
        rintro (h|rfl)
        · exact h
        exact hk
      rw [h3,card,card,FM.ofL_snoc,FM.put];simp [hf,hk]
    refine ⟨l++[k],?_,fun x=>by rw [List.mem_append,List.mem_append,h2],?_⟩
    · rw [List.nodup_append]
      exact ⟨h1,by simp,fun x hx y hy=>by
        rw [List.mem_singleton]at hy;subst hy
        intro e;subst e;exact hk ((h2 _).1 hx)⟩
    rw [List.length_append,h3,card,card,FM.ofL_snoc,FM.put];simp [hf,hk]
theorem card_mono{S T:List K}(h: ∀x∈S,x∈T):card S≤card T:=by
  obtain ⟨l,h1,h2,h3⟩:=FM.ofL_len S
  obtain ⟨m,_,h5,h6⟩:=FM.ofL_len T
  rw [←h3,←h6]
  exact len_of_sub h1 fun x hx=>(h5 x).2 (h x ((h2 x).1 hx))
theorem card_congr{S T:List K}(h: ∀x,x∈S↔x∈T):card S=card T:=Nat.le_antisymm (card_mono fun x hx=>(h x).1 hx) (card_mono fun x hx=>(h x).2 hx)
theorem card_le(S:List K):card S≤S.length:=by
  obtain ⟨l,h1,h2,h3⟩:=FM.ofL_len S
  rw [←h3];exact len_of_sub h1 fun x hx=>(h2 x).1 hx
theorem FM.ofL_congr{S T:List K}(h: ∀x,x∈S↔x∈T):FM.ofL S=FM.ofL T:=by
  have e1:(FM.ofL S).f=(FM.ofL T).f:=funext fun x=>by rw [FM.ofL_f,FM.ofL_f];simp only [h]
  have e2:(FM.ofL S).n=(FM.ofL T).n:=card_congr h
  cases hS:FM.ofL S;cases hT:FM.ofL T
  rw [hS]at e1 e2;rw [hT]at e1 e2
  simp only at e1 e2
  rw [e1,e2]
theorem Rep.of_ofL{S:List K}{q:List (K×Unit)}(h:Rep q (FM.ofL S)):(∀z,z∈q↔z.1∈S)∧q.length=card S:=by
  refine ⟨fun z=> ?_,h.len⟩
  obtain ⟨k,v⟩:=z
  rw [h.mem,FM.ofL_f]
  by_cases hk:k∈S<;>simp [hk]
theorem Rep.ofL(S:List K): ∃q:List (K×Unit),Rep q (FM.ofL S):=by
  obtain ⟨l,h1,h2,h3⟩:=FM.ofL_len S
  refine ⟨l.map fun x=>(x,()),⟨fun k v=> ?_,by rw [List.length_map,h3];rfl,?_⟩⟩
  · rw [FM.ofL_f,List.mem_map]
    constructor
    · rintro ⟨x,hx,e⟩
      cases e
      rw [if_pos ((h2 _).1 hx)]
    intro h
    split at h
    · rename_i hk;exact ⟨k,(h2 k).2 hk,rfl⟩
    cases h
  rw [List.map_map,show (Prod.fst ∘ fun x:K=>(x,()))=id from rfl,List.map_id];exact h1
end
section
variable {β γ:Type}
structure Grp (key:β→Int) (val:β→γ) (n:Nat) (l:List (List γ)) (xs:List β):Prop where
  len:l.length=n
  row: ∀i,i<n→nth l i []=(xs.filter fun x=>decide (key x=(i:Int))).map val
theorem Grp.nil(key:β→Int)(val:β→γ)(n:Nat):Grp key val n (List.replicate n []) []:=⟨List.length_replicate ..,fun i hi=>by simp [nth,List.getD,List.getElem?_replicate,hi]⟩
theorem Grp.snoc{key:β→Int}{val:β→γ}{n:Nat}{l:List (List γ)}{xs:List β}(h:Grp key val n l xs){x:β}(h0:0≤key x)(h1:key x<n):
    Grp key val n (l.set (key x).toNat (nth l (key x).toNat []++[val x])) (xs++[x]):=by
  refine ⟨by rw [List.length_set];exact h.len,fun i hi=> ?_⟩
  rw [List.filter_append,List.map_append,←h.row i hi]
  by_cases e:i=(key x).toNat
  · subst e
    have:key x=((key x).toNat:Int):=by omega
    have hl:=h.len
    rw [show nth (l.set (key x).toNat (nth l (key x).toNat []++[val x])) (key x).toNat []=nth l (key x).toNat []++[val x]from by simp [nth,List.getD,hl,hi]]
    simp [this.symm]
  have hne: ¬ key x=(i:Int):=by omega
  rw [show nth (l.set (key x).toNat (nth l (key x).toNat []++[val x])) i []=nth l i []from by simp [nth,List.getD,List.getElem?_set,Ne.symm e]]
  simp [hne]
theorem Grp.at{key:β→Int}{val:β→γ}{n:Nat}{l:List (List γ)}{xs:List β}(h:Grp key val n l xs){s:Int}(h0:0≤s)(h1:s<n):nth l s.toNat []=(xs.filter fun x=>decide (key x=s)).map val:=by
  rw [h.row _ (by omega)]
  have:((s.toNat:Nat):Int)=s:=by omega
  simp only [this]
theorem iter_all{α R:Type}{step:Nat→Option (Nat⊕R)}{y no:R}(l:List α)(d:α)(p:α→Bool)(hs: ∀k,k<l.length→p (nth l k d)=true→step k=some (.inl (k+1)))
    (hn: ∀k,k<l.length→p (nth l k d)=false→step k=some (.inr no)) (hd:step l.length=some (.inr y)):iter step 0=some (if l.all p then y else no):=by
  have h:=iter_any0 (step:=step) (y:=no) (no:=y) (fun k=>k) (fun k=> !p (nth l k d)) l.length (fun k hk hp=>hs k hk (by simpa using hp)) (fun k hk hp=>hn k hk (by simpa using hp)) hd
  rw [h,range_any l d (fun x=> !p x)]
  by_cases ha:l.all p=true
  · have:(l.any fun x=> !p x)=false:=by rw [List.any_eq_false];intro x hx;have:=(List.all_eq_true.1 ha) x hx;simp [this]
    rw [this,ha];rfl
  have:(l.any fun x=> !p x)=true:=by
    rw [Bool.not_eq_true,List.all_eq_false]at ha
    obtain ⟨x,hx,h⟩:=ha
    exact List.any_eq_true.2 ⟨x,hx,by simpa using h⟩
  rw [this];simp only [cond_true];rw [if_neg ha]
theorem iter_fold{α S R:Type}{step:S×Nat→Option ((S×Nat)⊕R)}{r:R}(l:List α)(d:α)(f:Nat→S)(hs: ∀k,k<l.length→step (f k,k)=some (.inl (f (k+1),k+1)))(hd:step (f l.length,l.length)=some (.inr r)):
    iter step (f 0,0)=some r:=iter_seq0 (fun k=>(f k,k)) l.length hs hd
end
end Go.E
end

noncomputable section
namespace Go.Proofs.YtamgjehhjkgelaaGreatDoor
open Go Go.E
def tipB(n:Int)(p:Tip):Bool:=decide (0≤p.state) && decide (p.state<n) && decide ((p.out.length:Int)≤1024)
def tipsB(l:List Tip)(n:Int):Bool:=decide ((l.length:Int)≤1024) && l.all (tipB n)
def arcB(n:Int)(a:Arc):Bool:=decide (0≤a.frm) && decide (a.frm<n) && decide (0≤a.to) && decide (a.to<n) && decide (a.set≠BSet.zero) && decide ((a.out.length:Int)≤1024)
def fstB(t:Fst):Bool:=decide (0≤t.states) && decide (t.states≤1024) && decide ((t.arcs.length:Int)≤16384) && tipsB t.starts t.states && tipsB t.ends t.states && t.arcs.all (arcB t.states)
theorem D0_(s n:Int):B1_ s n=some (decide (0≤s) && decide (s<n)):=by
  unfold B1_
  by_cases h:0≤s<;>simp [h]
theorem rightTips_eq (l : List Tip) (n : Int) : A3_ l n = some (tipsB l n) := by
  unfold A3_ tipsB
  by_cases h:(l.length:Int)≤1024
  · rw [decide_eq_false (by omega),iteO_false,iter_all (y:=true) (no:=false) l Tip.zero (tipB n)]
    · rw [decide_eq_true h,Bool.true_and];cases l.all (tipB n)<;>rfl
    · intro k hk hp
      simp only [tipB,Bool.and_eq_true,decide_eq_true_eq]at hp
      simp only [Al_,lt_dec hk,iteO_true,D0_,bnd,Option.bind_some,hp.1.1,hp.1.2,decide_true,Bool.and_self,Bool.not_true,iteO_false,decide_eq_false (show ¬ (1024:Int)<((nth l k Tip.zero).out.length:Int) by omega)];rfl
    · intro k hk hp
      simp only [Al_,lt_dec hk,iteO_true,D0_,bnd,Option.bind_some]
      by_cases hc:(decide (0≤(nth l k Tip.zero).state) && decide ((nth l k Tip.zero).state<n))=true
      · rw [hc]
        simp only [tipB,hc,Bool.true_and,decide_eq_false_iff_not]at hp
        simp only [Bool.not_true,iteO_false,decide_eq_true (show (1024:Int)<((nth l k Tip.zero).out.length:Int) by omega),iteO_true];rfl
      simp only [Bool.not_eq_true]at hc
      rw [hc];rfl
    simp only [Al_,Int.lt_irrefl,decide_false,iteO_false];rfl
  rw [decide_eq_true (by omega),iteO_true];simp [h]
theorem Ds_(t:Fst):Be_ t=some (errB (fstB t)):=by
  unfold Be_
  by_cases h1:t.states<0
  · rw [decide_eq_true h1,iteO_true];simp [fstB,errB,show ¬ 0≤t.states by omega]
  rw [decide_eq_false h1,iteO_false]
  by_cases h2:1024<t.states
  · rw [decide_eq_true h2,iteO_true];simp [fstB,errB,show ¬ t.states≤1024 by omega]
  rw [decide_eq_false h2,iteO_false]
  by_cases h3:(16384:Int)<(t.arcs.length:Int)
  · rw [decide_eq_true h3,iteO_true];simp only [fstB,decide_eq_false (show ¬ (t.arcs.length:Int)≤16384 by omega),Bool.and_false,Bool.false_and];rfl
  rw [decide_eq_false h3,iteO_false,rightTips_eq,bnd,Option.bind_some]
  have e0:fstB t=(tipsB t.starts t.states && tipsB t.ends t.states && t.arcs.all (arcB t.states)):=by
    simp only [fstB,decide_eq_true (show 0≤t.states by omega),decide_eq_true (show t.states≤1024 by omega),decide_eq_true (show (t.arcs.length:Int)≤16384 by omega),Bool.true_and]
  rw [e0]
  cases h4:tipsB t.starts t.states
  · rfl
  simp only [Bool.not_true,iteO_false,rightTips_eq,bnd,Option.bind_some]
  cases h5:tipsB t.ends t.states
  · rfl
  simp only [Bool.not_true,iteO_false,Bool.and_self,Bool.true_and]
  rw [iter_all (y:=0) (no:=1) t.arcs Arc.zero (arcB t.states)]
  · rfl
  · intro k hk hp
    simp only [arcB,Bool.and_eq_true,decide_eq_true_eq]at hp
    obtain ⟨⟨⟨⟨⟨p1,p2⟩,p3⟩,p4⟩,p5⟩,p6⟩:=hp
    simp only [A1_,lt_dec hk,iteO_true,D0_,bnd,Option.bind_some,p1,p2,p3,p4,p5,decide_true,decide_false,Bool.and_self,Bool.not_true,iteO_false,decide_eq_false (show ¬ (1024:Int)<((nth t.arcs k Arc.zero).out.length:Int) by omega)];rfl
  · intro k hk hp
    simp only [A1_,lt_dec hk,iteO_true,D0_,bnd,Option.bind_some]
    cases hc:(decide (0≤(nth t.arcs k Arc.zero).frm) && decide ((nth t.arcs k Arc.zero).frm<t.states))
    · rfl
    cases hd:(decide (0≤(nth t.arcs k Arc.zero).to) && decide ((nth t.arcs k Arc.zero).to<t.states))
    · rfl
    simp only [Bool.not_true,iteO_false]
    by_cases he:(nth t.arcs k Arc.zero).set=BSet.zero
    · rw [decide_eq_true he];rfl
    rw [decide_eq_false he,iteO_false]
    have hd':(decide (0≤(nth t.arcs k Arc.zero).frm) && decide ((nth t.arcs k Arc.zero).frm<t.states) && decide (0≤(nth t.arcs k Arc.zero).to) && decide ((nth t.arcs k Arc.zero).to<t.states))=true:=by rw [Bool.and_assoc,hc,hd];rfl
    simp only [arcB,hd',Bool.true_and,ne_eq,he,not_false_eq_true,decide_true,decide_eq_false_iff_not]at hp
    rw [decide_eq_true (by omega)];rfl
  simp only [A1_,Int.lt_irrefl,decide_false,iteO_false];rfl
theorem errB_ne{b:Bool}:decide (errB b≠0)= !b:=by cases b<;>rfl
def outOf(p:FPair)(a:Arc)(b:UInt8):List UInt8:=if a.copy then (p.out++a.out)++[b] else p.out++a.out
def aftA(g:List Arc)(p:FPair)(b:UInt8):List FPair:=(g.filter fun a=>a.set.has b.toNat).map fun a=>⟨a.to,outOf p a b⟩
def aftP(t:Fst)(S:List FPair)(b:UInt8):List FPair:=S.flatMap fun p=>aftA (t.arcs.filter fun a=>decide (a.frm=p.state)) p b
def tp(x:Tip):FPair:=⟨x.state,x.out⟩
def pairsL(t:Fst)(w:List UInt8):List FPair:=w.foldl (aftP t) (t.starts.map tp)
def fitsB(t:Fst)(w:List UInt8):Bool:=(List.range w.length).all fun k=>decide (card (pairsL t (w.take (k+1)))≤4096)
def endT(t:Fst)(S:List FPair):List (List UInt8):=S.flatMap fun p=>((t.ends.filter fun e=>decide (e.state=p.state)).map Tip.out).map fun o=>p.out++o
def outsL(t:Fst)(w:List UInt8):List (List UInt8):=onceL [] Lib.compareBytes (endT t (pairsL t w))
theorem mem_aftA{g:List Arc}{p q:FPair}{b:UInt8}:q∈aftA g p b↔ ∃a∈g,a.set.has b.toNat=true∧q=⟨a.to,outOf p a b⟩:=by
  simp only [aftA,List.mem_map,List.mem_filter]
  constructor
  · rintro ⟨a,⟨h1,h2⟩,h3⟩;exact ⟨a,h1,h2,h3.symm⟩
  rintro ⟨a,h1,h2,h3⟩;exact ⟨a,⟨h1,h2⟩,h3.symm⟩
theorem mem_aftP{t:Fst}{S:List FPair}{b:UInt8}{q:FPair}:q∈aftP t S b↔ ∃p∈S, ∃a∈t.arcs,a.frm=p.state∧a.set.has b.toNat=true∧q=⟨a.to,outOf p a b⟩:=by
  simp only [aftP,List.mem_flatMap,mem_aftA,List.mem_filter,decide_eq_true_eq]
  constructor
  · rintro ⟨p,h1,a,⟨h2,h3⟩,h4,h5⟩;exact ⟨p,h1,a,h2,h3,h4,h5⟩
  rintro ⟨p,h1,a,h2,h3,h4,h5⟩;exact ⟨p,h1,a,⟨h2,h3⟩,h4,h5⟩
theorem aftA_snoc(g:List Arc)(a:Arc)(p:FPair)(b:UInt8):aftA (g++[a]) p b=aftA g p b++(if a.set.has b.toNat then [⟨a.to,outOf p a b⟩] else []):=by
  rw [aftA,List.filter_append,List.map_append]
  cases h:a.set.has b.toNat<;>simp [aftA,h]
theorem b2_step(x0:List (List Arc))(z:FPair×Unit)(b:UInt8)(S:List FPair)(hS:card S≤4096)(hz:z.1.out.length≤100000000)(hg: ∀a∈nth x0 z.1.state.toNat [],a.out.length≤1024):
    iter (fun q:(FM FPair Unit)×Nat=>Ax_ x0 z b q.1 q.2) (FM.ofL S,0)=
      some (if card (S++aftA (nth x0 z.1.state.toNat []) z.1 b)≤4096 then .inl (FM.ofL (S++aftA (nth x0 z.1.state.toNat []) z.1 b)) else .inr (FM.emp,false)):=by
  generalize hgd:nth x0 z.1.state.toNat ([]:List Arc)=g at hg
  refine Exists.elim (iter_run (step:=fun q:(FM FPair Unit)×Nat=>Ax_ x0 z b q.1 q.2)
    (fun q=>q.2≤g.length∧q.1=FM.ofL (S++aftA (g.take q.2) z.1 b)∧card (S++aftA (g.take q.2) z.1 b)≤4096)
    (fun r=>r=if card (S++aftA g z.1 b)≤4096 then .inl (FM.ofL (S++aftA g z.1 b)) else .inr (FM.emp,false)) (fun q=>g.length - q.2) ?_ (FM.ofL S,0) ⟨Nat.zero_le _,by simp [aftA],by simpa [aftA]using hS⟩) (fun r hr=>by rw [hr.1,hr.2])
  rintro ⟨m,k⟩ ⟨hk,hm,hc⟩
  simp only at hk hm hc
  subst hm
  by_cases hlt:k<g.length
  · have hmem:nth g k Arc.zero∈g:=nth_mem' hlt _
    have ho:=hg _ hmem
    have hsn:aftA (g.take (k+1)) z.1 b=aftA (g.take k) z.1 b++(if (nth g k Arc.zero).set.has b.toNat then [⟨(nth g k Arc.zero).to,outOf z.1 (nth g k Arc.zero) b⟩] else []):=by rw [take_snoc g hlt Arc.zero,aftA_snoc]
    cases hh:(nth g k Arc.zero).set.has b.toNat
    · left
      rw [hh]at hsn
      refine ⟨(FM.ofL (S++aftA (g.take k) z.1 b),k+1),?_,⟨by simp only;omega,by simp only [hsn];simp,by simp only [hsn];simpa using hc⟩,by simp only;omega⟩
      simp only [Ax_,hgd,lt_dec hlt,iteO_true,hh,Bool.not_false];rfl
    rw [hh]at hsn
    simp only [if_true]at hsn
    have hout:Ax_ x0 z b (FM.ofL (S++aftA (g.take k) z.1 b)) k=Cr_ (FM.ofL (S++aftA (g.take k) z.1 b)) x0 z k (outOf z.1 (nth g k Arc.zero) b):=by
      simp only [Ax_,hgd,lt_dec hlt,iteO_true,hh,Bool.not_true,iteO_false]
      rw [grd_mk (by omega)]
      unfold outOf
      cases (nth g k Arc.zero).copy
      · simp
      simp only [iteO_true,if_true]
      rw [grd_mk (by simp only [List.length_append,List.length_singleton];omega)]
    have hput:FM.put (FM.ofL (S++aftA (g.take k) z.1 b)) (⟨(nth g k Arc.zero).to,outOf z.1 (nth g k Arc.zero) b⟩:FPair) ()=FM.ofL (S++aftA (g.take (k+1)) z.1 b):=by rw [←FM.ofL_snoc,hsn,List.append_assoc]
    simp only [hout,Cr_,hgd,hput]
    by_cases hbig:card (S++aftA (g.take (k+1)) z.1 b)≤4096
    · left
      refine ⟨(FM.ofL (S++aftA (g.take (k+1)) z.1 b),k+1),?_,⟨by simp only;omega,rfl,hbig⟩,by simp only;omega⟩
      rw [decide_eq_false (by unfold card at hbig;omega),iteO_false];rfl
    right
    refine ⟨.inr (FM.emp,false),?_,?_⟩
    · rw [decide_eq_true (by unfold card at hbig;omega),iteO_true];rfl
    rw [if_neg]
    have:card (S++aftA (g.take (k+1)) z.1 b)≤card (S++aftA g z.1 b):=card_mono fun x hx=>by
      rw [List.mem_append]at *
      refine hx.imp id fun hx=> ?_
      rw [mem_aftA]at *
      obtain ⟨a,h1,h2⟩:=hx
      exact ⟨a,List.mem_of_mem_take h1,h2⟩
    omega
  right
  have e:g.take k=g:=List.take_of_length_le (by omega)
  rw [e]at hc ⊢
  rw [if_pos hc]
  refine ⟨_,?_,rfl⟩
  simp only [Ax_,hgd,decide_eq_false (show ¬ ((k:Nat):Int)<((g.length:Nat):Int) by omega),iteO_false];rfl
def aftG(x0:List (List Arc))(S:List FPair)(b:UInt8):List FPair:=S.flatMap fun p=>aftA (nth x0 p.state.toNat []) p b
theorem step_run(x0:List (List Arc))(b:UInt8)(hg: ∀i, ∀a∈nth x0 i [],a.out.length≤1024): ∀(q:List (FPair×Unit)) (T:List FPair),(∀z∈q,(0≤z.1.state∧z.1.state<(x0.length:Int))∧z.1.out.length≤100000000)→card T≤4096→
    runL (fun (q:(FM FPair Unit)) (oE:Option (FPair×Unit))=>Bk_ x0 b q oE) q (FM.ofL T)=some (if card (T++aftG x0 (q.map Prod.fst) b)≤4096 then (FM.ofL (T++aftG x0 (q.map Prod.fst) b),true) else (FM.emp,false))
  |[],T,_,hT=>by
    simp only [runL,Bk_,optE,fin_some,aftG,List.map_nil,List.flatMap_nil,List.append_nil,if_pos hT]
  | z :: q, T, hq, hT => by
    have hz:=hq z (List.mem_cons_self ..)
    have e:T++aftG x0 ((z::q).map Prod.fst) b=(T++aftA (nth x0 z.1.state.toNat []) z.1 b)++aftG x0 (q.map Prod.fst) b:=by simp [aftG]
    have hst:Bk_ x0 b (FM.ofL T) (some z)=some (if card (T++aftA (nth x0 z.1.state.toNat []) z.1 b)≤4096 then .inl (FM.ofL (T++aftA (nth x0 z.1.state.toNat []) z.1 b)) else .inr (FM.emp,false)):=by
      simp only [Bk_,optE]
      rw [grd_mk hz.1,b2_step x0 z b T hT hz.2 (hg _)]
    simp only [runL,hst]
    by_cases hc:card (T++aftA (nth x0 z.1.state.toNat []) z.1 b)≤4096
    · rw [if_pos hc]
      simp only
      rw [step_run x0 b hg q _ (fun y hy=>hq y (List.mem_cons_of_mem _ hy)) hc,e]
    rw [if_neg hc]
    simp only
    rw [if_neg]
    rw [e]
    have:=card_mono (S:=T++aftA (nth x0 z.1.state.toNat []) z.1 b) (T:=(T++aftA (nth x0 z.1.state.toNat []) z.1 b)++aftG x0 (q.map Prod.fst) b) (fun x hx=>List.mem_append_left _ hx)
    omega
theorem step_eq(x0:List (List Arc))(b:UInt8)(S:List FPair)(hg: ∀i, ∀a∈nth x0 i [],a.out.length≤1024)(hS: ∀p∈S,(0≤p.state∧p.state<(x0.length:Int))∧p.out.length≤100000000):
    E6_ x0 (FM.ofL S) b=some (if card (aftG x0 S b)≤4096 then (FM.ofL (aftG x0 S b),true) else (FM.emp,false)):=by
  obtain ⟨q0,hq0⟩:=Rep.ofL S
  unfold E6_
  refine allP_i q0 hq0 fun q hq=> ?_
  have h1:=(Rep.of_ofL hq).1
  have:=step_run x0 b hg q [] (fun z hz=>hS z.1 ((h1 z).1 hz)) (by decide)
  have hcg: ∀x,x∈[]++aftG x0 (q.map Prod.fst) b↔x∈aftG x0 S b:=fun x=>by
    simp only [aftG,List.nil_append,List.mem_flatMap,List.mem_map]
    constructor
    · rintro ⟨p,⟨z,hz,rfl⟩,h⟩;exact ⟨z.1,(h1 z).1 hz,h⟩
    rintro ⟨p,hp,h⟩;exact ⟨p,⟨(p,()),(h1 (p,())).2 hp,rfl⟩,h⟩
  rw [card_congr hcg,FM.ofL_congr hcg]at this
  exact this
end Go.Proofs.YtamgjehhjkgelaaGreatDoor
end

noncomputable section
namespace Go.Proofs.YtamgjehhjkgelaaGreatDoor
open Go Go.E
theorem tipB_ok{n:Int}{p:Tip}(h:tipB n p=true):(0≤p.state∧p.state<n)∧p.out.length≤1024:=by
  simp only [tipB,Bool.and_eq_true,decide_eq_true_eq]at h;exact ⟨h.1,by omega⟩
theorem tipsB_ok{n:Int}{l:List Tip}(h:tipsB l n=true):l.length≤1024∧ ∀p∈l,(0≤p.state∧p.state<n)∧p.out.length≤1024:=by
  simp only [tipsB,Bool.and_eq_true,decide_eq_true_eq,List.all_eq_true]at h
  exact ⟨by omega,fun p hp=>tipB_ok (h.2 p hp)⟩
theorem arcB_ok{n:Int}{a:Arc}(h:arcB n a=true):(0≤a.frm∧a.frm<n)∧(0≤a.to∧a.to<n)∧a.set≠BSet.zero∧a.out.length≤1024:=by
  simp only [arcB,Bool.and_eq_true,decide_eq_true_eq]at h
  obtain ⟨⟨⟨⟨⟨p1,p2⟩,p3⟩,p4⟩,p5⟩,p6⟩:=h
  exact ⟨⟨p1,p2⟩,⟨p3,p4⟩,p5,by omega⟩
structure FstOk (t:Fst):Prop where
  st0:0≤t.states
  st1:t.states≤1024
  arcsN:t.arcs.length≤16384
  startsN:t.starts.length≤1024
  endsN:t.ends.length≤1024
  starts: ∀p∈t.starts,(0≤p.state∧p.state<t.states)∧p.out.length≤1024
  ends: ∀p∈t.ends,(0≤p.state∧p.state<t.states)∧p.out.length≤1024
  arcs: ∀a∈t.arcs,(0≤a.frm∧a.frm<t.states)∧(0≤a.to∧a.to<t.states)∧a.set≠BSet.zero∧a.out.length≤1024
theorem fstB_iff(t:Fst):fstB t=true↔FstOk t:=by
  constructor
  · intro h
    simp only [fstB,Bool.and_eq_true,decide_eq_true_eq,List.all_eq_true]at h
    obtain ⟨⟨⟨⟨⟨h1,h2⟩,h3⟩,h4⟩,h5⟩,h6⟩:=h
    exact ⟨h1,h2,by omega,(tipsB_ok h4).1,(tipsB_ok h5).1,(tipsB_ok h4).2,(tipsB_ok h5).2,fun a ha=>arcB_ok (h6 a ha)⟩
  rintro ⟨h1,h2,h3,h4,h5,h6,h7,h8⟩
  have hT: ∀l:List Tip,l.length≤1024→(∀p∈l,(0≤p.state∧p.state<t.states)∧p.out.length≤1024)→tipsB l t.states=true:=fun l hl hp=>by
    simp only [tipsB,Bool.and_eq_true,decide_eq_true_eq,List.all_eq_true]
    refine ⟨by omega,fun p hq=> ?_⟩
    have:=hp p hq
    simp only [tipB,Bool.and_eq_true,decide_eq_true_eq];omega
  simp only [fstB,Bool.and_eq_true,decide_eq_true_eq,List.all_eq_true]
  refine ⟨⟨⟨⟨⟨h1,h2⟩,by omega⟩,hT _ h4 h6⟩,hT _ h5 h7⟩,fun a ha=> ?_⟩
  obtain ⟨p1,p2,p3,p4⟩:=h8 a ha
  simp only [arcB,Bool.and_eq_true,decide_eq_true_eq]
  exact ⟨⟨⟨⟨p1,p2.1⟩,p2.2⟩,p3⟩,by omega⟩
theorem pairsL_snoc(t:Fst)(w:List UInt8)(b:UInt8):pairsL t (w++[b])=aftP t (pairsL t w) b:=by simp [pairsL]
theorem outOf_len(p:FPair)(a:Arc)(b:UInt8):(outOf p a b).length≤p.out.length+a.out.length+1:=by
  unfold outOf;split<;>simp only [List.length_append,List.length_singleton]<;>omega
theorem pairs_ok{t:Fst}(ht:FstOk t)(w:List UInt8): ∀p∈pairsL t w,(0≤p.state∧p.state<t.states)∧p.out.length≤1024+1025 * w.length:=by
  induction w using rev_ind with
  |h0=>
    intro p hp
    obtain ⟨x,hx,rfl⟩:=List.mem_map.1 hp
    have:=ht.starts x hx
    exact ⟨this.1,by have:=this.2;simp only [tp,List.length_nil];omega⟩
  |h1 w b ih=>
    intro q hq
    rw [pairsL_snoc,mem_aftP]at hq
    obtain ⟨p,hp,a,ha,_,_,rfl⟩:=hq
    have h1:=ht.arcs a ha
    have h2:=(ih p hp).2
    have h3:=outOf_len p a b
    refine ⟨h1.2.1,?_⟩
    rw [List.length_append,List.length_singleton]
    simp only;omega
theorem b6_run(l229:List (List (List UInt8)))(z:FPair×Unit)(l:List (List UInt8))(hz:z.1.out.length≤100000000)(hes: ∀o∈nth l229 z.1.state.toNat [],o.length≤1024)(hl:l.length+(nth l229 z.1.state.toNat []).length≤8000000000):
    iter (fun q:(List (List UInt8))×Nat=>Bi_ l229 z q.1 q.2) (l,0)=some (.inl (l++(nth l229 z.1.state.toNat []).map fun o=>z.1.out++o)):=by
  generalize hgd:nth l229 z.1.state.toNat ([]:List (List UInt8))=es at hes hl
  have:=iter_fold (step:=fun q:(List (List UInt8))×Nat=>Bi_ l229 z q.1 q.2) (r:= .inl (l++es.map fun o=>z.1.out++o)) es [] (fun k=>l++(es.take k).map fun o=>z.1.out++o) ?_ ?_
  · simpa using this
  · intro k hk
    have ho:=hes _ (nth_mem' hk [])
    simp only [Bi_,hgd,lt_dec hk,iteO_true]
    rw [grd_mk (by omega),grd_mk (by simp only [List.length_append,List.length_map,List.length_take,List.length_singleton];omega),take_snoc es hk []]
    simp [nxt]
  simp only [Bi_,hgd,Int.lt_irrefl,decide_false,iteO_false,List.take_length];rfl
def endG(l229:List (List (List UInt8)))(q:List (FPair×Unit)):List (List UInt8):=q.flatMap fun z=>(nth l229 z.1.state.toNat []).map fun o=>z.1.out++o
theorem b5_run(l229:List (List (List UInt8)))(he: ∀i,(nth l229 i []).length≤1024∧ ∀o∈nth l229 i [],o.length≤1024): ∀(q:List (FPair×Unit)) (l:List (List UInt8)),(∀z∈q,(0≤z.1.state∧z.1.state<(l229.length:Int))∧z.1.out.length≤100000000)→l.length+q.length * 1024≤8000000000→
    runL (fun (q:(List (List UInt8))) (oE:Option (FPair×Unit))=>Bh_ l229 q oE) q l=some (onceL [] Lib.compareBytes (l++endG l229 q),0)
  |[],l,_,hl=>by
    simp only [runL,Bh_,optE,Hz_ (l:=l) (by simp at hl;omega),bnd,Option.bind_some,fin_some,endG,List.flatMap_nil,List.append_nil]
  | z :: q, l, hq, hl => by
    have hz:=hq z (List.mem_cons_self ..)
    have h1:=he z.1.state.toNat
    simp only [List.length_cons]at hl
    have hst:Bh_ l229 l (some z)=some (.inl (l++(nth l229 z.1.state.toNat []).map fun o=>z.1.out++o)):=by
      simp only [Bh_,optE]
      rw [grd_mk hz.1,b6_run l229 z l hz.2 h1.2 (by omega)]
    simp only [runL,hst]
    rw [b5_run l229 he q _ (fun y hy=>hq y (List.mem_cons_of_mem _ hy)) (by rw [List.length_append,List.length_map];omega)]
    simp [endG]
theorem ends_run{t:Fst}(ht:FstOk t)(S:List FPair)(hS: ∀p∈S,(0≤p.state∧p.state<t.states)∧p.out.length≤100000000)(hc:card S≤4096):
    iter (fun q:(List (List (List UInt8)))×Nat=>Bf_ t (FM.ofL S) q.1 q.2) (List.replicate t.states.toNat [],0)=some (onceL [] Lib.compareBytes (endT t S),0):=by
  have ht0:=ht.st0
  refine Exists.elim (iter_run (step:=fun q:(List (List (List UInt8)))×Nat=>Bf_ t (FM.ofL S) q.1 q.2) (fun q=>q.2≤t.ends.length∧Grp Tip.state Tip.out t.states.toNat q.1 (t.ends.take q.2))
    (fun r=>r=(onceL [] Lib.compareBytes (endT t S),0)) (fun q=>t.ends.length - q.2) ?_ (List.replicate t.states.toNat [],0) ⟨Nat.zero_le _,by simpa using Grp.nil Tip.state Tip.out t.states.toNat⟩) (fun r hr=>by rw [hr.1,hr.2])
  rintro ⟨l,k⟩ ⟨hk,hG⟩
  simp only at hk hG
  have hlen:=hG.len
  by_cases hlt:k<t.ends.length
  · left
    have hm:=ht.ends _ (nth_mem' hlt Tip.zero)
    have hrow:(nth l (nth t.ends k Tip.zero).state.toNat []).length≤1024:=by
      rw [hG.at hm.1.1 (by omega),List.length_map]
      have:=List.length_filter_le (fun x:Tip=>decide (x.state=(nth t.ends k Tip.zero).state)) (t.ends.take k)
      rw [List.length_take]at this
      have:=ht.endsN;omega
    refine ⟨(l.set (nth t.ends k Tip.zero).state.toNat (nth l (nth t.ends k Tip.zero).state.toNat []++[(nth t.ends k Tip.zero).out]),k+1),?_,⟨by simp only;omega,?_⟩,by simp only;omega⟩
    · simp only [Bf_,lt_dec hlt,iteO_true]
      rw [grd_mk (by omega),grd_mk (by rw [List.length_singleton];omega),grd_mk (by omega)]
      rfl
    simp only
    rw [take_snoc t.ends hlt Tip.zero]
    exact hG.snoc hm.1.1 (by omega)
  right
  have e:t.ends.take k=t.ends:=List.take_of_length_le (by omega)
  rw [e]at hG
  refine ⟨_,?_,rfl⟩
  simp only [Bf_,decide_eq_false (show ¬ ((k:Nat):Int)<((t.ends.length:Nat):Int) by omega),iteO_false]
  have hrow: ∀i,(nth l i []).length≤1024∧ ∀o∈nth l i [],o.length≤1024:=fun i=>by
    by_cases hi:i<t.states.toNat
    · rw [hG.row i hi,List.length_map]
      refine ⟨Nat.le_trans (List.length_filter_le _ _) ht.endsN,fun o ho=> ?_⟩
      obtain ⟨x,hx,rfl⟩:=List.mem_map.1 ho
      exact (ht.ends x (List.mem_filter.1 hx).1).2
    have:nth l i []=[]:=by simp [nth,List.getD,show l.length≤i by omega]
    rw [this];simp
  obtain ⟨q0,hq0⟩:=Rep.ofL S
  rw [allP_i (r:=(onceL [] Lib.compareBytes (endT t S),0)) q0 hq0 fun q hq=> ?_]
  · rfl
  obtain ⟨h1,h2⟩:=Rep.of_ofL hq
  rw [b5_run l hrow q [] (fun z hz=>by have:=hS z.1 ((h1 z).1 hz);exact ⟨⟨this.1.1,by omega⟩,this.2⟩) (by simp;omega)]
  congr 2
  refine Ha_ cmpB_good fun x=> ?_
  simp only [endG,endT,List.nil_append,List.mem_flatMap]
  constructor
  · rintro ⟨z,hz,h⟩
    have hzS:=(h1 z).1 hz
    have:=hS z.1 hzS
    rw [hG.at this.1.1 (by omega)]at h
    exact ⟨z.1,hzS,h⟩
  rintro ⟨p,hp,h⟩
  have:=hS p hp
  refine ⟨(p,()),(h1 (p,())).2 hp,?_⟩
  rw [hG.at this.1.1 (by omega)]
  exact h
theorem aftG_eq{t:Fst}{l:List (List Arc)}(hG:Grp Arc.frm id t.states.toNat l t.arcs)(S:List FPair)(hS: ∀p∈S,0≤p.state∧p.state<t.states)(b:UInt8):aftG l S b=aftP t S b:=by
  unfold aftG aftP
  rw [List.flatMap_def,List.flatMap_def]
  congr 1
  refine List.map_congr_left fun p hp=> ?_
  have:=hS p hp
  rw [hG.at this.1 (by omega),List.map_id]
theorem card_start{t:Fst}(ht:FstOk t):card (t.starts.map tp)≤4096:=by
  have:=card_le (t.starts.map tp)
  rw [List.length_map]at this
  have:=ht.startsN;omega
theorem Hy_{t:Fst}(ht:FstOk t)(w:List UInt8)(hw:w.length≤256)(l:List (List Arc))(hG:Grp Arc.frm id t.states.toNat l t.arcs):
    iter (fun q:(FM FPair Unit)×Nat=>A8_ w l t q.1 q.2) (FM.ofL (t.starts.map tp),0)=some (if fitsB t w then (outsL t w,0) else ([],2)):=by
  have ht0:=ht.st0
  have ht1:=ht.st1
  have hlen:=hG.len
  have hrow: ∀i, ∀a∈nth l i [],a.out.length≤1024:=fun i a ha=>by
    by_cases hi:i<t.states.toNat
    · rw [hG.row i hi,List.map_id]at ha
      exact (ht.arcs a (List.mem_filter.1 ha).1).2.2.2
    have:nth l i []=[]:=by simp [nth,List.getD,show l.length≤i by omega]
    rw [this]at ha;cases ha
  refine Exists.elim (iter_run (step:=fun q:(FM FPair Unit)×Nat=>A8_ w l t q.1 q.2) (fun q=>q.2≤w.length∧q.1=FM.ofL (pairsL t (w.take q.2))∧card (pairsL t (w.take q.2))≤4096∧ ∀j,j<q.2→card (pairsL t (w.take (j+1)))≤4096)
    (fun r=>r=if fitsB t w then (outsL t w,0) else ([],2)) (fun q=>w.length - q.2) ?_ (FM.ofL (t.starts.map tp),0) ⟨Nat.zero_le _,rfl,card_start ht,fun j hj=>by cases hj⟩) (fun r hr=>by rw [hr.1,hr.2])
  rintro ⟨m,k⟩ ⟨hk,hm,hc,hf⟩
  simp only at hk hm hc hf
  subst hm
  have hok:=pairs_ok ht (w.take k)
  have hlt':(w.take k).length≤256:=by rw [List.length_take];omega
  by_cases hlt:k<w.length
  · have hstep:=step_eq l (nth w k 0) (pairsL t (w.take k)) hrow (fun p hp=>by have:=hok p hp;exact ⟨⟨this.1.1,by omega⟩,by omega⟩)
    rw [aftG_eq hG _ (fun p hp=>(hok p hp).1),←pairsL_snoc,←take_snoc w hlt 0]at hstep
    simp only [A8_,lt_dec hlt,iteO_true,hstep,bnd,Option.bind_some]
    by_cases hb:card (pairsL t (w.take (k+1)))≤4096
    · left
      rw [if_pos hb]
      refine ⟨(FM.ofL (pairsL t (w.take (k+1))),k+1),rfl,⟨by simp only;omega,rfl,hb,fun j hj=> ?_⟩,by simp only;omega⟩
      simp only at hj
      by_cases e:j=k
      · subst e;exact hb
      exact hf j (by omega)
    right
    rw [if_neg hb]
    refine ⟨([],2),rfl,?_⟩
    rw [if_neg]
    intro h
    rw [fitsB,List.all_eq_true]at h
    exact hb (by simpa using h k (List.mem_range.2 hlt))
  right
  have e:w.take k=w:=List.take_of_length_le (by omega)
  have hk':k=w.length:=by omega
  refine ⟨(outsL t w,0),?_,?_⟩
  · simp only [A8_,decide_eq_false (show ¬ ((k:Nat):Int)<((w.length:Nat):Int) by omega),iteO_false]
    rw [grd_mk (by omega),e,ends_run ht _ (fun p hp=>by have:=pairs_ok ht w p hp;exact ⟨this.1,by omega⟩) (by rw [e]at hc;exact hc)]
    rfl
  rw [if_pos]
  rw [fitsB,List.all_eq_true]
  intro j hj
  simpa using hf j (by rw [hk'];exact List.mem_range.1 hj)
theorem starts_run(t:Fst)(w:List UInt8)(l:List (List Arc)){r:List (List UInt8)×Int}(h:iter (fun q:(FM FPair Unit)×Nat=>A8_ w l t q.1 q.2) (FM.ofL (t.starts.map tp),0)=some r):
    iter (fun q:(FM FPair Unit)×Nat=>Bj_ t w l q.1 q.2) (FM.emp,0)=some r:=by
  refine iter_fold (step:=fun q:(FM FPair Unit)×Nat=>Bj_ t w l q.1 q.2) t.starts Tip.zero (fun k=>FM.ofL ((t.starts.take k).map tp)) ?_ ?_
  · intro k hk
    simp only [Bj_,lt_dec hk,iteO_true]
    rw [take_snoc t.starts hk Tip.zero,List.map_append,List.map_cons,List.map_nil,FM.ofL_snoc]
    rfl
  simp only [Bj_,Int.lt_irrefl,decide_false,iteO_false,List.take_length,h];rfl
theorem arcs_run{t:Fst}(ht:FstOk t)(w:List UInt8)(hw:w.length≤256):
    iter (fun q:(List (List Arc))×Nat=>Bg_ t w q.1 q.2) (List.replicate t.states.toNat [],0)=some (if fitsB t w then (outsL t w,0) else ([],2)):=by
  have ht0:=ht.st0
  refine Exists.elim (iter_run (step:=fun q:(List (List Arc))×Nat=>Bg_ t w q.1 q.2) (fun q=>q.2≤t.arcs.length∧Grp Arc.frm id t.states.toNat q.1 (t.arcs.take q.2))
    (fun r=>r=if fitsB t w then (outsL t w,0) else ([],2)) (fun q=>t.arcs.length - q.2) ?_ (List.replicate t.states.toNat [],0) ⟨Nat.zero_le _,by simpa using Grp.nil Arc.frm id t.states.toNat⟩) (fun r hr=>by rw [hr.1,hr.2])
  rintro ⟨l,k⟩ ⟨hk,hG⟩
  simp only at hk hG
  have hlen:=hG.len
  by_cases hlt:k<t.arcs.length
  · left
    have hm:=ht.arcs _ (nth_mem' hlt Arc.zero)
    have hrow:(nth l (nth t.arcs k Arc.zero).frm.toNat []).length≤16384:=by
      rw [hG.at hm.1.1 (by omega),List.length_map]
      have:=List.length_filter_le (fun x:Arc=>decide (x.frm=(nth t.arcs k Arc.zero).frm)) (t.arcs.take k)
      rw [List.length_take]at this
      have:=ht.arcsN;omega
    refine ⟨(l.set (nth t.arcs k Arc.zero).frm.toNat (nth l (nth t.arcs k Arc.zero).frm.toNat []++[nth t.arcs k Arc.zero]),k+1),?_,⟨by simp only;omega,?_⟩,by simp only;omega⟩
    · simp only [Bg_,lt_dec hlt,iteO_true]
      rw [grd_mk (by omega),grd_mk (by rw [List.length_singleton];omega),grd_mk (by omega)]
      rfl
    simp only
    rw [take_snoc t.arcs hlt Arc.zero]
    exact hG.snoc hm.1.1 (by omega)
  right
  have e:t.arcs.take k=t.arcs:=List.take_of_length_le (by omega)
  rw [e]at hG
  refine ⟨_,?_,rfl⟩
  simp only [Bg_,decide_eq_false (show ¬ ((k:Nat):Int)<((t.arcs.length:Nat):Int) by omega),iteO_false]
  rw [starts_run t w l (Hy_ ht w hw l hG)]
  rfl
theorem outs_eq(t:Fst)(w:List UInt8)(hw:w.length≤281474976710656):Cc_ t w=some (if fstB t=true then (if w.length≤256 then (if fitsB t w=true then (outsL t w,0) else ([],2)) else ([],2)) else ([],1)):=by
  unfold Cc_
  rw [grd_mk hw,Ds_,bnd,Option.bind_some,errB_ne]
  by_cases h:fstB t=true
  · have ht:=(fstB_iff t).1 h
    have ht0:=ht.st0
    have ht1:=ht.st1
    rw [h,if_pos rfl,Bool.not_true,iteO_false]
    by_cases h2:w.length≤256
    · rw [decide_eq_false (by omega),iteO_false,if_pos h2,grd_mk (by omega),arcs_run ht w h2]
    rw [decide_eq_true (by omega),iteO_true,if_neg h2]
  simp only [Bool.not_eq_true]at h
  rw [h];rfl
end Go.Proofs.YtamgjehhjkgelaaGreatDoor
end

noncomputable section
namespace Go.Proofs.YtamgjehhjkgelaaGreatDoor
open Go Go.E
def toS(d:Dfa)(s z:Nat):BSet:=BSet.make fun b=>decide (nth (nth d.next s ([]:List Int)) (nth d.cls b (0:Int)).toNat (0:Int)=((z:Nat):Int))
def backR(d:Dfa)(s m:Nat):List Arrow:=(List.range m).flatMap fun z=>if toS d s z=BSet.zero then [] else [⟨((s:Nat):Int),((z:Nat):Int),toS d s z⟩]
def backE(d:Dfa)(m:Nat):List Arrow:=(List.range m).flatMap fun s=>backR d s d.next.length
def endsN(d:Dfa)(m:Nat):List Int:=(List.range m).flatMap fun s=>if nth d.fin s false=true then [((s:Nat):Int)] else []
def backN(d:Dfa):Nfa:=⟨((d.next.length:Nat):Int),[0],endsN d d.next.length,backE d d.next.length⟩
def mkF(d:Dfa)(out:List UInt8)(c:Bool):Fst:=⟨((d.next.length:Nat):Int),[⟨0,[]⟩],(endsN d d.next.length).map fun s=>⟨s,out⟩,(backE d d.next.length).map fun x=>⟨x.frm,x.to,x.set,[],c⟩⟩
theorem flat_len{α β:Type}(f:α→List β)(k:Nat): ∀l:List α,(∀x∈l,(f x).length≤k)→(l.flatMap f).length≤l.length * k
  |[],_=>by simp
  |x::l,h=>by
    have h1:=h x (List.mem_cons_self ..)
    have h2:=flat_len f k l fun y hy=>h y (List.mem_cons_of_mem _ hy)
    rw [List.flatMap_cons,List.length_append,List.length_cons,Nat.add_mul,Nat.one_mul];omega
theorem backR_len(d:Dfa)(s m:Nat):(backR d s m).length≤m:=by
  have:=flat_len (fun z=>if toS d s z=BSet.zero then [] else [(⟨((s:Nat):Int),((z:Nat):Int),toS d s z⟩:Arrow)]) 1 (List.range m) (fun z _=>by split<;>simp)
  rw [List.length_range,Nat.mul_one]at this;exact this
theorem backE_len(d:Dfa)(m:Nat):(backE d m).length≤m * d.next.length:=by
  have:=flat_len (fun s=>backR d s d.next.length) d.next.length (List.range m) (fun s _=>backR_len _ _ _)
  rw [List.length_range]at this;exact this
theorem endsN_len(d:Dfa)(m:Nat):(endsN d m).length≤m:=by
  have:=flat_len (fun s=>if nth d.fin s false=true then [((s:Nat):Int)] else []) 1 (List.range m) (fun z _=>by split<;>simp)
  rw [List.length_range,Nat.mul_one]at this;exact this
end Go.Proofs.YtamgjehhjkgelaaGreatDoor
end

noncomputable section
namespace Go.E
open Go
theorem iter_for {α S T R : Type} {step : T → Option (T ⊕ R)} (g : S → Nat → T) (l : List α) (d : α) (I : List α → S → Prop) (Q : R → Prop)
    (hs: ∀k s,k<l.length→I (l.take k) s→(∃s',step (g s k)=some (.inl (g s' (k+1)))∧I (l.take k++[nth l k d]) s')∨ ∃r,step (g s k)=some (.inr r)∧Q r)
    (hd: ∀s,I l s→ ∃r,step (g s l.length)=some (.inr r)∧Q r) {s0:S} (h0:I [] s0): ∃r,iter step (g s0 0)=some r∧Q r:=by
  have key: ∀m k s,l.length - k=m→k≤l.length→I (l.take k) s→ ∃r,iter step (g s k)=some r∧Q r:=by
    intro m
    induction m with
    |zero=>
      intro k s hm hk hI
      have hk:k=l.length:=by omega
      subst hk
      rw [List.take_length]at hI
      obtain ⟨r,h1,h2⟩:=hd s hI
      exact ⟨r,iter_done h1,h2⟩
    |succ m ih=>
      intro k s hm hk hI
      rcases hs k s (by omega) hI with ⟨s',h1,h2⟩|⟨r,h1,h2⟩
      · rw [←take_snoc l (by omega) d]at h2
        obtain ⟨r,h3,h4⟩:=ih (k+1) s' (by omega) (by omega) h2
        exact ⟨r,iter_next h1 h3,h4⟩
      exact ⟨r,iter_done h1,h2⟩
  exact key _ 0 s0 rfl (Nat.zero_le _) h0
theorem take_split{α:Type}(l:List α){k:Nat}(h:k<l.length)(d:α):l=l.take k++nth l k d::l.drop (k+1):=by
  have h1:l.drop k=nth l k d::l.drop (k+1):=by
    have:=List.drop_eq_getElem_cons h
    rw [this];congr 1
    have h2:=getD_some l h d
    rw [List.getElem?_eq_getElem h]at h2;exact Option.some.inj h2
  rw [←h1,List.take_append_drop]
end Go.E
end

noncomputable section
namespace Go.E
open Go
theorem iteO_dt{α:Type}{p:Prop}[Decidable p]{a b:Option α}(h:p):iteO (decide p) a b=a:=by rw [decide_eq_true h];rfl
theorem iteO_df{α:Type}{p:Prop}[Decidable p]{a b:Option α}(h: ¬ p):iteO (decide p) a b=b:=by rw [decide_eq_false h];rfl
theorem bnd_mk{α β:Type}{x:α}{f:α→Option β}:bnd (some x) f=f x:=rfl
theorem iteO_nt{α:Type}{a b:Option α}:iteO (!true) a b=b:=rfl
theorem iteO_nf{α:Type}{a b:Option α}:iteO (!false) a b=a:=rfl
theorem iter_up {S T R : Type} {step : T → Option (T ⊕ R)} (g : S → Nat → T) (n : Nat) (I : Nat → S → Prop) (Q : R → Prop)
    (hs: ∀k s,k<n→I k s→(∃s',step (g s k)=some (.inl (g s' (k+1)))∧I (k+1) s')∨ ∃r,step (g s k)=some (.inr r)∧Q r)
    (hd: ∀s,I n s→ ∃r,step (g s n)=some (.inr r)∧Q r) {s0:S} (h0:I 0 s0): ∃r,iter step (g s0 0)=some r∧Q r:=by
  have key: ∀m k s,n - k=m→k≤n→I k s→ ∃r,iter step (g s k)=some r∧Q r:=by
    intro m
    induction m with
    |zero=>
      intro k s hm hk hI
      have hk:k=n:=by omega
      subst hk
      obtain ⟨r,h1,h2⟩:=hd s hI
      exact ⟨r,iter_done h1,h2⟩
    |succ m ih=>
      intro k s hm hk hI
      rcases hs k s (by omega) hI with ⟨s',h1,h2⟩|⟨r,h1,h2⟩
      · obtain ⟨r,h3,h4⟩:=ih (k+1) s' (by omega) (by omega) h2
        exact ⟨r,iter_next h1 h3,h4⟩
      exact ⟨r,iter_done h1,h2⟩
  exact key _ 0 s0 rfl (Nat.zero_le _) h0
end Go.E
end

noncomputable section
namespace Go.Proofs.YtamgjehhjkgelaaGreatDoor
open Go Go.E
theorem u64or_lt'(a b:Nat):u64or a b<18446744073709551616:=(BitVec.ofNat 64 a ||| BitVec.ofNat 64 b).isLt
theorem has_bit'(s:BSet)(n:Nat):s.has n=(s.word (n / 64)).testBit (n % 64):=by
  unfold BSet.has;rw [Nat.testBit_eq_decide_div_mod_eq]
theorem Hc_{s t:BSet}(h: ∀n,n<256→s.has n=t.has n):s=t:=by
  refine BSet.ext_word fun i hi=>Nat.eq_of_testBit_eq fun j=> ?_
  by_cases hj:j<64
  · have h1:=h (64 * i+j) (by omega)
    rw [has_bit',has_bit',show (64 * i+j) / 64=i by omega,show (64 * i+j) % 64=j by omega]at h1
    exact h1
  have h2: ∀u:BSet,(u.word i).testBit j=false:=fun u=>Nat.testBit_lt_two_pow (Nat.lt_of_lt_of_le (BSet.word_lt u.isOk i) (show 2 ^ 64≤2 ^ j from Nat.pow_le_pow_right (by omega) (by omega)))
  rw [h2,h2]
theorem any_eq (a b : BSet) : Ck_ a b = some (BSet.make fun n => a.has n || b.has n) := by
  have h: ∃r,Ck_ a b=some r∧ ∀i,i<4→r.word i=u64or (a.word i) (b.word i):=by
    unfold Ck_
    exact iter_up (step:=fun q:BSet×Nat=>Az_ b q.1 q.2) (fun (s:BSet) k=>(s,k)) 4 (fun k s=> ∀i,i<4→s.word i=if i<k then u64or (a.word i) (b.word i) else a.word i) (fun r=> ∀i,i<4→r.word i=u64or (a.word i) (b.word i))
      (fun k s hk hI=> .inl ⟨BSet.setWord s k (u64or (BSet.word s k) (BSet.word b k)),by
        show Az_ b s k=_
        unfold Az_
        rw [iteO_dt (by omega),grd_mk hk,grd_mk hk,grd_mk hk,grd_mk (u64or_lt' _ _)];rfl,fun i hi=>by
        rw [BSet.word_set s hk _ i (u64or_lt' _ _) hi]
        by_cases e:i=k
        · subst e;rw [if_pos rfl,if_pos (by omega),hI i hi,if_neg (by omega)]
        rw [if_neg e,hI i hi]
        by_cases e2:i<k
        · rw [if_pos e2,if_pos (by omega)]
        rw [if_neg e2,if_neg (by omega)]⟩)
      (fun s hI=>⟨s,by
        show Az_ b s 4=_
        unfold Az_
        rw [iteO_df (by omega)];rfl,fun i hi=>by rw [hI i hi,if_pos hi]⟩) (s0:=a) (fun i hi=>by rw [if_neg (by omega)])
  obtain ⟨r,h1,h2⟩:=h
  rw [h1]
  congr 1
  refine Hc_ fun n hn=> ?_
  have l1:=BSet.word_lt a.isOk (n / 64)
  have l2:=BSet.word_lt b.isOk (n / 64)
  rw [BSet.make_has _ hn,has_bit',has_bit',has_bit',h2 _ (by omega)]
  unfold u64or
  rw [BitVec.toNat_or,BitVec.toNat_ofNat,BitVec.toNat_ofNat,Nat.mod_eq_of_lt l1,Nat.mod_eq_of_lt l2,Nat.testBit_or]
def cntS(o:Option Nat)(n:Int):Option Nat:=o.bind fun k=>if n<0∨(k:Int)<n then none else some (if n=k then k+1 else k)
def cntF(l:List Int):Option Nat:=l.foldl cntS (some 0)
theorem cntS_none: ∀l:List Int,l.foldl cntS none=none
  |[]=>rfl
  |_::l=>cntS_none l
theorem cntF_snoc(l:List Int)(n:Int):cntF (l++[n])=cntS (cntF l) n:=by simp [cntF,List.foldl_append]
theorem cntF_none{l m:List Int}(h:cntF l=none):cntF (l++m)=none:=by
  unfold cntF at h ⊢;rw [List.foldl_append,h,cntS_none]
theorem cntF_le: ∀(l:List Int) (j k:Nat),l.foldl cntS (some j)=some k→k≤j+l.length
  |[],j,k,h=>by cases h;simp
  |n::l,j,k,h=>by
    rw [List.foldl_cons]at h
    by_cases hc:n<0∨(j:Int)<n
    · rw [show cntS (some j) n=none by simp [cntS,hc],cntS_none]at h;cases h
    rw [show cntS (some j) n=some (if n=j then j+1 else j) by simp [cntS,hc]]at h
    have:=cntF_le l _ k h
    simp only [List.length_cons]
    split at this<;>omega
def clsF(cls:List Int)(k c:Nat):Nat→Bool:=fun b=>decide (b<k) && decide (nth cls b (0:Int)=((c:Nat):Int))
def clsS(cls:List Int)(c:Nat):BSet:=BSet.make fun b=>decide (nth cls b (0:Int)=((c:Nat):Int))
structure SetsI (cls:List Int) (k:Nat) (s:List BSet):Prop where
  cnt:cntF (cls.take k)=some s.length
  sets: ∀c,c<s.length→nth s c BSet.zero=BSet.make (clsF cls k c)
  low: ∀b,b<k→0≤nth cls b (0:Int)∧nth cls b (0:Int)<((s.length:Nat):Int)
  some_: ∀c,c<s.length→ ∃b,b<k∧nth cls b (0:Int)=((c:Nat):Int)
theorem nth_set'{α:Type}(l:List α)(i j:Nat)(x d:α)(hi:i<l.length):nth (l.set i x) j d=if j=i then x else nth l j d:=by
  unfold nth
  rw [List.getD_eq_getElem?_getD,List.getD_eq_getElem?_getD,List.getElem?_set]
  by_cases h:i=j
  · subst h;rw [if_pos rfl,if_pos rfl,if_pos hi];rfl
  rw [if_neg h,if_neg (fun e=>h e.symm)]
theorem nth_app_l{α:Type}(l m:List α)(j:Nat)(d:α)(h:j<l.length):nth (l++m) j d=nth l j d:=by
  unfold nth;rw [List.getD_eq_getElem?_getD,List.getD_eq_getElem?_getD,List.getElem?_append_left h]
theorem nth_app_e{α:Type}(l:List α)(x d:α):nth (l++[x]) l.length d=x:=by
  unfold nth;rw [List.getD_eq_getElem?_getD,List.getElem?_append_right (Nat.le_refl _)];simp
theorem take_cons'{l:List Int}{k:Nat}(h:k<l.length):l.take (k+1)=l.take k++[nth l k 0]:=by
  rw [List.take_add_one,getD_some l h 0];rfl
theorem of1'(k:Nat)(hk:k<256){n:Nat}(h:n<256):(BSet.ofL [toU8 ((k:Nat):Int)]).has n=decide (n=k):=by
  unfold BSet.ofL
  rw [BSet.make_has _ h]
  have:=toU8_val ((k:Nat):Int)
  rw [wrap_u8]at this
  have e:(toU8 ((k:Nat):Int)).toNat=k:=by omega
  simp [e]
theorem sets_put {cls : List Int} {k : Nat} {s l : List BSet} (hk : k < 256) (hI : SetsI cls k s) {n : Nat} (hn : nth cls k (0 : Int) = ((n : Nat) : Int)) (hle : s.length ≤ l.length) (hl : l.length ≤ s.length + 1) (hnl : n < l.length) (hs : ∀ c, c < s.length → nth l c BSet.zero = nth s c BSet.zero) (hz : s.length < l.length → n = s.length ∧ nth l n BSet.zero = BSet.zero)
    (hc:cntF (cls.take (k+1))=some l.length):SetsI cls (k+1) (l.set n (BSet.make fun b=>(nth l n BSet.zero).has b || (BSet.ofL [toU8 ((k:Nat):Int)]).has b)) where
  cnt:=by rw [List.length_set];exact hc
  sets := fun c hcl => by
    rw [List.length_set]at hcl
    rw [nth_set' _ _ _ _ _ hnl]
    by_cases e:c=n
    · subst e
      rw [if_pos rfl]
      refine BSet.make_congr fun b hb=> ?_
      rw [of1' k hk hb]
      have h0:(nth l c BSet.zero).has b=clsF cls k c b:=by
        by_cases h1:c<s.length
        · rw [hs c h1,hI.sets c h1,BSet.make_has _ hb]
        have h2:=hz (by omega)
        rw [h2.2]
        have h3:clsF cls k c b=false:=by
          unfold clsF
          by_cases hbk:b<k
          · have:=(hI.low b hbk).2
            rw [decide_eq_false (show ¬ nth cls b (0:Int)=((c:Nat):Int) by omega),Bool.and_false]
          rw [decide_eq_false hbk,Bool.false_and]
        rw [h3,←BSet.make_zero,BSet.make_has _ hb]
      rw [h0]
      unfold clsF
      by_cases hb2:b=k
      · subst hb2;rw [hn];simp
      by_cases hb3:b<k
      · rw [decide_eq_true hb3,decide_eq_true (show b<k+1 by omega),decide_eq_false hb2,Bool.or_false]
      rw [decide_eq_false hb3,decide_eq_false (show ¬ b<k+1 by omega),decide_eq_false hb2];rfl
    rw [if_neg e]
    have h1:c<s.length:=by
      by_cases h2:s.length<l.length
      · have:=(hz h2).1;omega
      omega
    rw [hs c h1,hI.sets c h1]
    refine BSet.make_congr fun b hb=> ?_
    unfold clsF
    by_cases hb2:b=k
    · subst hb2
      rw [decide_eq_false (Nat.lt_irrefl _),hn,decide_eq_false (show ¬ ((n:Nat):Int)=((c:Nat):Int) by omega)];simp
    rw [decide_eq_decide.2 (show b<k↔b<k+1 by omega)]
  low:=fun b hb=>by
    rw [List.length_set]
    by_cases e:b=k
    · subst e;rw [hn];omega
    have:=hI.low b (by omega);omega
  some_:=fun c hcl=>by
    rw [List.length_set]at hcl
    by_cases h1:c<s.length
    · obtain ⟨b,h2,h3⟩:=hI.some_ c h1;exact ⟨b,by omega,h3⟩
    have h2:=hz (by omega)
    exact ⟨k,by omega,by rw [hn];omega⟩
theorem partSets_full (cls : List Int) : ∃ r, C4_ cls = some r ∧ (((cls.length ≠ 256 ∨ cntF cls = none) ∧ r.2 = 1) ∨ (cls.length = 256 ∧ cntF cls = some r.1.length ∧ r.2 = 0 ∧ (∀ c, c < r.1.length → nth r.1 c BSet.zero = clsS cls c) ∧ ∀ c, c < r.1.length → ∃ b, b < 256 ∧ nth cls b (0 : Int) = ((c : Nat) : Int))) := by
  unfold C4_
  by_cases h256:cls.length=256
  · rw [iteO_df (show ¬ ((cls.length:Nat):Int)≠256 by omega)]
    obtain ⟨r,h1,h2⟩:=iter_up (step:=fun q:List BSet×Nat=>Ar_ cls q.1 q.2) (fun (s:List BSet) k=>(s,k)) 256 (fun k s=>SetsI cls k s) (fun r=>(cntF cls=none∧r.2=1)∨(SetsI cls 256 r.1∧r.2=0))
      (fun k s hk hI=>by
        have hk':k<cls.length:=by omega
        have hsp:cls=cls.take k++(nth cls k 0::cls.drop (k+1)):=by
          rw [←List.singleton_append,←List.append_assoc,←take_cons' hk',List.take_append_drop]
        have hle:=cntF_le _ _ _ hI.cnt
        rw [List.length_take,Nat.zero_add]at hle
        have hstop:(nth cls k 0<0∨(s.length:Int)<nth cls k 0)→cntF cls=none:=fun hc=>by
          rw [hsp,←List.singleton_append,←List.append_assoc]
          exact cntF_none (by rw [cntF_snoc,hI.cnt];simp [cntS,hc])
        have hgo: ∀l:List BSet,0≤nth cls k 0→nth cls k 0<(l.length:Int)→B5_ cls k l=some (.inl (l.set (nth cls k (0:Int)).toNat (BSet.make fun b=>(nth l (nth cls k (0:Int)).toNat BSet.zero).has b || (BSet.ofL [toU8 ((k:Nat):Int)]).has b),k+1)):=fun l h0 h1=>by
          unfold B5_;rw [grd_mk ⟨h0,h1⟩,grd_mk (by simp),bnd_some (any_eq _ _),grd_mk ⟨h0,h1⟩];rfl
        show (∃s',Ar_ cls s k=_∧_)∨ ∃r,Ar_ cls s k=_∧_
        unfold Ar_
        rw [iteO_dt (by omega)]
        by_cases c1:nth cls k 0<0
        · right;rw [iteO_dt c1];exact ⟨_,rfl,.inl ⟨hstop (.inl c1),rfl⟩⟩
        rw [iteO_df c1]
        by_cases c2:(s.length:Int)<nth cls k 0
        · right;rw [iteO_dt c2];exact ⟨_,rfl,.inl ⟨hstop (.inr c2),rfl⟩⟩
        rw [iteO_df c2]
        left
        by_cases c3:nth cls k 0=(s.length:Int)
        · rw [iteO_dt c3,grd_mk (by simp;omega),hgo _ (by omega) (by simp;omega)]
          refine ⟨_,rfl,sets_put hk hI (n:=(nth cls k (0:Int)).toNat) (by omega) (by simp) (by simp) (by simp;omega) (fun c hc=>nth_app_l _ _ _ _ hc) (fun _=>⟨by omega,?_⟩) ?_⟩
          · rw [show (nth cls k (0:Int)).toNat=s.length by omega,nth_app_e]
          rw [take_cons' hk',cntF_snoc,hI.cnt];simp [cntS,c3]
        rw [iteO_df c3,hgo _ (by omega) (by omega)]
        refine ⟨_,rfl,sets_put hk hI (n:=(nth cls k (0:Int)).toNat) (by omega) (Nat.le_refl _) (by omega) (by omega) (fun _ _=>rfl) (fun h=>absurd h (Nat.lt_irrefl _)) ?_⟩
        rw [take_cons' hk',cntF_snoc,hI.cnt];simp [cntS,c3];omega)
      (fun s hI=>⟨(s,0),by
        show Ar_ cls s 256=_
        unfold Ar_
        rw [iteO_df (by omega)];rfl,.inr ⟨hI,rfl⟩⟩) (s0:=[]) ⟨rfl,by simp,by simp,by simp⟩
    refine ⟨r,h1,?_⟩
    rcases h2 with ⟨h2,h3⟩|⟨h2,h3⟩
    · exact .inl ⟨.inr h2,h3⟩
    have h4:=h2.cnt
    rw [List.take_of_length_le (by omega)]at h4
    refine .inr ⟨h256,h4,h3,fun c hc=> ?_,h2.some_⟩
    rw [h2.sets c hc]
    exact BSet.make_congr fun b hb=>by unfold clsF;rw [decide_eq_true hb,Bool.true_and]
  rw [iteO_dt (show ((cls.length:Nat):Int)≠256 by omega)]
  exact ⟨_,rfl,.inl ⟨.inl h256,rfl⟩⟩
end Go.Proofs.YtamgjehhjkgelaaGreatDoor
end

noncomputable section
namespace Go.Proofs.YtamgjehhjkgelaaGreatDoor
open Go Go.E
theorem partSets_ok(cls:List Int): ∃r,C4_ cls=some r∧(((cls.length≠256∨cntF cls=none)∧r.2=1)∨(cls.length=256∧cntF cls=some r.1.length∧r.2=0)):=by
  obtain ⟨r,h,h1|h1⟩:=partSets_full cls
  · exact ⟨r,h,.inl h1⟩
  exact ⟨r,h,.inr ⟨h1.1,h1.2.1,h1.2.2.1⟩⟩
def goodS(n:Nat)(s:Int):Bool:=decide (0≤s) && decide (s<(n:Int))
def goodR(n m:Nat)(row:List Int):Bool:=decide (row.length=m) && row.all (goodS n)
def rightD(d:Dfa):Bool:=decide (d.cls.length=256) && (match cntF d.cls with|some m=>d.next.all (goodR d.next.length m)|none=>false) && decide (1≤d.next.length∧d.next.length≤1024) && decide (d.fin.length=d.next.length)
theorem all_snocD{α:Type}(p:α→Bool)(l:List α)(x:α):(l++[x]).all p=(l.all p && p x):=by simp [List.all_append]
theorem all_falseD{α:Type}{p:α→Bool}{l:List α}{k:Nat}(hk:k<l.length)(d:α)(h:p (nth l k d)=false):l.all p=false:=by
  rw [List.all_eq_false];exact ⟨_,List.mem_of_getElem? (getD_some l hk d),by simp [h]⟩
theorem chk_in(d:Dfa)(k:Nat): ∃r,iter (fun q:Nat=>Ba_ d k q) 0=some r∧(((nth d.next k []).all (goodS d.next.length)=true∧r= .inl (k+1))∨((nth d.next k []).all (goodS d.next.length)=false∧r= .inr 1)):=
  iter_for (step:=fun q:Nat=>Ba_ d k q) (fun (_:Unit) j=>j) (nth d.next k []) 0 (fun pre _=>pre.all (goodS d.next.length)=true) (fun r=>((nth d.next k []).all (goodS d.next.length)=true∧r= .inl (k+1))∨((nth d.next k []).all (goodS d.next.length)=false∧r= .inr 1))
    (fun j s hj hI=>by
      simp only [Ba_]
      rw [show decide (((j:Nat):Int)<(((nth d.next k ([]:List Int)).length:Nat):Int))=true from decide_eq_true (by omega),iteO_true]
      by_cases c1:nth (nth d.next k ([]:List Int)) j (0:Int)<0
      · right;rw [decide_eq_true c1,iteO_true];exact ⟨_,rfl,.inr ⟨all_falseD hj 0 (by simp [goodS];omega),rfl⟩⟩
      rw [decide_eq_false c1,iteO_false]
      by_cases c2:((d.next.length:Nat):Int)≤nth (nth d.next k ([]:List Int)) j (0:Int)
      · right;rw [decide_eq_true c2,iteO_true];exact ⟨_,rfl,.inr ⟨all_falseD hj 0 (by simp [goodS];omega),rfl⟩⟩
      rw [decide_eq_false c2,iteO_false]
      left
      exact ⟨(),rfl,by rw [all_snocD,hI];simp [goodS];omega⟩)
    (fun s hI=>by
      simp only [Ba_]
      rw [show decide ((((nth d.next k ([]:List Int)).length:Nat):Int)<(((nth d.next k ([]:List Int)).length:Nat):Int))=false from decide_eq_false (by omega),iteO_false]
      exact ⟨_,rfl,.inl ⟨hI,rfl⟩⟩) (s0:=()) rfl
theorem chk_out (d : Dfa) (v : (List BSet) × Int) : ∃ r, iter (fun q : Nat => Bc_ d v q) 0 = some r ∧ ((d.next.all (goodR d.next.length v.1.length) = true ∧ r = 0) ∨ (d.next.all (goodR d.next.length v.1.length) = false ∧ r = 1)) :=
  iter_for (step:=fun q:Nat=>Bc_ d v q) (fun (_:Unit) j=>j) d.next [] (fun pre _=>pre.all (goodR d.next.length v.1.length)=true) (fun r=>(d.next.all (goodR d.next.length v.1.length)=true∧r=0)∨(d.next.all (goodR d.next.length v.1.length)=false∧r=1))
    (fun k s hk hI=>by
      simp only [Bc_]
      rw [show decide (((k:Nat):Int)<((d.next.length:Nat):Int))=true from decide_eq_true (by omega),iteO_true]
      by_cases c1:(nth d.next k ([]:List Int)).length=v.1.length
      · rw [show decide ((((nth d.next k ([]:List Int)).length:Nat):Int)≠((v.1.length:Nat):Int))=false from decide_eq_false (by omega),iteO_false]
        obtain ⟨r,h1,h2|h2⟩:=chk_in d k
        · left;rw [h1,h2.2];exact ⟨(),rfl,by rw [all_snocD,hI];simp [goodR,c1,h2.1]⟩
        right;rw [h1,h2.2];exact ⟨_,rfl,.inr ⟨all_falseD hk [] (by simp only [goodR,h2.1,Bool.and_false]),rfl⟩⟩
      right
      rw [show decide ((((nth d.next k ([]:List Int)).length:Nat):Int)≠((v.1.length:Nat):Int))=true from decide_eq_true (by omega),iteO_true]
      exact ⟨_,rfl,.inr ⟨all_falseD hk [] (by simp [goodR,c1]),rfl⟩⟩)
    (fun s hI=>by
      simp only [Bc_]
      rw [show decide (((d.next.length:Nat):Int)<((d.next.length:Nat):Int))=false from decide_eq_false (by omega),iteO_false]
      exact ⟨_,rfl,.inl ⟨hI,rfl⟩⟩) (s0:=()) rfl
theorem dcheck_eq(d:Dfa):Dj_ d=some (if rightD d=true then 0 else 1):=by
  unfold Dj_
  obtain ⟨v,hv,h⟩:=partSets_ok d.cls
  rw [bnd_some hv]
  rcases h with ⟨h1,h2⟩|⟨h1,h2,h3⟩
  · rw [decide_eq_true (show v.2≠0 by omega),iteO_true]
    rw [if_neg]
    rcases h1 with h1|h1
    · simp [rightD,h1]
    simp [rightD,h1]
  rw [decide_eq_false (show ¬ v.2≠0 by omega),iteO_false]
  by_cases c1:d.next.length<1
  · rw [show decide (((d.next.length:Nat):Int)<1)=true from decide_eq_true (by omega),iteO_true,if_neg]
    simp only [rightD,Bool.and_eq_true,decide_eq_true_eq];omega
  rw [show decide (((d.next.length:Nat):Int)<1)=false from decide_eq_false (by omega),iteO_false]
  by_cases c2:1024<d.next.length
  · rw [show decide (1024<((d.next.length:Nat):Int))=true from decide_eq_true (by omega),iteO_true,if_neg]
    simp only [rightD,Bool.and_eq_true,decide_eq_true_eq];omega
  rw [show decide (1024<((d.next.length:Nat):Int))=false from decide_eq_false (by omega),iteO_false]
  by_cases c3:d.fin.length=d.next.length
  · rw [show decide (((d.fin.length:Nat):Int)≠((d.next.length:Nat):Int))=false from decide_eq_false (by omega),iteO_false]
    obtain ⟨r,hr,hr2⟩:=chk_out d v
    rw [hr]
    have e:rightD d=d.next.all (goodR d.next.length v.1.length):=by
      simp only [rightD,h1,h2,c3,decide_true,Bool.true_and,Bool.and_true]
      rw [show decide (1≤d.next.length∧d.next.length≤1024)=true from decide_eq_true (by omega),Bool.and_true]
    rw [e]
    rcases hr2 with ⟨h4,h5⟩|⟨h4,h5⟩
    · rw [h4,h5,if_pos rfl]
    rw [h4,h5,if_neg (by simp)]
  rw [show decide (((d.fin.length:Nat):Int)≠((d.next.length:Nat):Int))=true from decide_eq_true (by omega),iteO_true,if_neg]
  simp only [rightD,Bool.and_eq_true,decide_eq_true_eq];omega
theorem cnt_mem: ∀(l:List Int) (j m:Nat),l.foldl cntS (some j)=some m→j≤m∧ ∀n∈l,0≤n∧n<(m:Int)
  |[],j,m,h=>by cases h;simp
  |n::l,j,m,h=>by
    rw [List.foldl_cons]at h
    by_cases hc:n<0∨(j:Int)<n
    · rw [show cntS (some j) n=none by simp [cntS,hc],cntS_none]at h;cases h
    rw [show cntS (some j) n=some (if n=j then j+1 else j) by simp [cntS,hc]]at h
    obtain ⟨h1,h2⟩:=cnt_mem l _ m h
    refine ⟨by split at h1<;>omega,fun k hk=> ?_⟩
    rcases List.mem_cons.1 hk with rfl|hk
    · split at h1<;>omega
    exact h2 k hk
def okS(d:Dfa)(s:Int):Prop:=0≤s∧s<(d.next.length:Int)
def dlt(d:Dfa)(s:Int)(b:UInt8):Int:=nth (nth d.next s.toNat ([]:List Int)) ((nth d.cls b.toNat (0:Int)).toNat) (0:Int)
theorem nth_memD{α:Type}{l:List α}{i:Nat}(hi:i<l.length)(d:α):nth l i d∈l:=List.mem_of_getElem? (getD_some l hi d)
structure DltOk (d:Dfa) (s:Int) (b:UInt8):Prop where
  cl:b.toNat<d.cls.length
  c:0≤nth d.cls b.toNat (0:Int)∧nth d.cls b.toNat (0:Int)<((nth d.next s.toNat ([]:List Int)).length:Int)
  nx:okS d (dlt d s b)
  f:0≤dlt d s b∧dlt d s b<(d.fin.length:Int)
end Go.Proofs.YtamgjehhjkgelaaGreatDoor
end

noncomputable section
namespace Go.Proofs.YtamgjehhjkgelaaGreatDoor
open Go Go.E
def growSt(g:Grow)(x:Tip):Grow:=if g.over=true∨1024≤g.f.starts.length∨1024<x.out.length then ⟨g.f,true⟩ else ⟨⟨g.f.states,g.f.starts++[x],g.f.ends,g.f.arcs⟩,false⟩
def growEn(g:Grow)(x:Tip):Grow:=if g.over=true∨1024≤g.f.ends.length∨1024<x.out.length then ⟨g.f,true⟩ else ⟨⟨g.f.states,g.f.starts,g.f.ends++[x],g.f.arcs⟩,false⟩
def growAr(g:Grow)(x:Arc):Grow:=if g.over=true∨16384≤g.f.arcs.length∨1024<x.out.length then ⟨g.f,true⟩ else ⟨⟨g.f.states,g.f.starts,g.f.ends,g.f.arcs++[x]⟩,false⟩
def lookG(g:Grow):Fst×Int:=if g.over=true∨1024<g.f.states then (⟨0,[],[],[]⟩,2) else (g.f,0)
theorem start_eq(g:Grow)(x:Tip):B7_ g x=some (growSt g x):=by
  unfold B7_ growSt
  obtain ⟨⟨n,S,E,A⟩,o⟩:=g
  cases o with
  |true=>rw [if_pos (.inl rfl)];rfl
  |false=>
    dsimp only
    rw [iteO_false]
    by_cases h1:1024≤S.length
    · rw [iteO_dt (by omega),if_pos (.inr (.inl h1))]
    rw [iteO_df (by omega)]
    by_cases h2:1024<x.out.length
    · rw [iteO_dt (by omega),if_pos (.inr (.inr h2))]
    rw [iteO_df (by omega),grd_mk (by simp only [List.length_singleton];omega),if_neg (by simp;omega)]
theorem end_eq(g:Grow)(x:Tip):C1_ g x=some (growEn g x):=by
  unfold C1_ growEn
  obtain ⟨⟨n,S,E,A⟩,o⟩:=g
  cases o with
  |true=>rw [if_pos (.inl rfl)];rfl
  |false=>
    dsimp only
    rw [iteO_false]
    by_cases h1:1024≤E.length
    · rw [iteO_dt (by omega),if_pos (.inr (.inl h1))]
    rw [iteO_df (by omega)]
    by_cases h2:1024<x.out.length
    · rw [iteO_dt (by omega),if_pos (.inr (.inr h2))]
    rw [iteO_df (by omega),grd_mk (by simp only [List.length_singleton];omega),if_neg (by simp;omega)]
theorem arc_eq(g:Grow)(x:Arc):C2_ g x=some (growAr g x):=by
  unfold C2_ growAr
  obtain ⟨⟨n,S,E,A⟩,o⟩:=g
  cases o with
  |true=>rw [if_pos (.inl rfl)];rfl
  |false=>
    dsimp only
    rw [iteO_false]
    by_cases h1:16384≤A.length
    · rw [iteO_dt (by omega),if_pos (.inr (.inl h1))]
    rw [iteO_df (by omega)]
    by_cases h2:1024<x.out.length
    · rw [iteO_dt (by omega),if_pos (.inr (.inr h2))]
    rw [iteO_df (by omega),grd_mk (by simp only [List.length_singleton];omega),if_neg (by simp;omega)]
theorem look_eq(g:Grow):Cd_ g=some (lookG g):=by
  unfold Cd_ lookG
  obtain ⟨⟨n,S,E,A⟩,o⟩:=g
  cases o with
  |true=>rw [if_pos (.inl rfl)];rfl
  |false=>
    dsimp only
    rw [iteO_false]
    by_cases h:1024<n
    · rw [iteO_dt h,if_pos (.inr h)]
    rw [iteO_df h,if_neg (by simp;omega)]
theorem cls_run {S : Type} {B : S → Int × BSet → Option (Nat × S)} {x1 : List BSet} (I : Nat → S → Prop) (hB : ∀ k l, k < x1.length → I k l → ∃ l', B l (((k : Nat) : Int), nth x1 k BSet.zero) = some (0, l') ∧ I (k + 1) l') {l0 : S} (h0 : I 0 l0) :
    ∃l,At_ (stepY B) (0,l0) x1=some (0,l)∧I x1.length l:=by
  unfold At_
  obtain ⟨r,h1,l,h2,h3⟩:=iter_up (step:=fun q:Nat×(Nat×S)=>Ah_ x1 (stepY B) q.1 q.2) (fun (s:S) k=>(k,(0,s))) x1.length I (fun r=> ∃l,r=(0,l)∧I x1.length l)
    (fun k l hk hI=>by
      obtain ⟨l',h1,h2⟩:=hB k l hk hI
      refine .inl ⟨l',?_,h2⟩
      show Ah_ x1 (stepY B) k (0,l)=_
      unfold Ah_
      rw [iteO_dt (by omega)]
      have hs:stepY B (0,l) (((k:Nat):Int),nth x1 k BSet.zero)=some ((0,l'),true):=by
        unfold stepY
        rw [if_pos rfl,h1];rfl
      rw [bnd_some hs];rfl)
    (fun l hI=>⟨(0,l),by
      show Ah_ x1 (stepY B) x1.length (0,l)=_
      unfold Ah_
      rw [iteO_df (by omega)];rfl,l,rfl,hI⟩) h0
  exact ⟨l,by rw [h1,h2],h3⟩
structure RowOk (d:Dfa) (m s b:Nat):Prop where
  cl:b<d.cls.length
  c0:0≤nth d.cls b (0:Int)
  c1:nth d.cls b (0:Int)<((m:Nat):Int)
  n0:0≤nth (nth d.next s ([]:List Int)) (nth d.cls b (0:Int)).toNat (0:Int)
  n1:nth (nth d.next s ([]:List Int)) (nth d.cls b (0:Int)).toNat (0:Int)<((d.next.length:Nat):Int)
theorem right_parts{d:Dfa}(h:rightD d=true): ∃m,cntF d.cls=some m∧d.cls.length=256∧1≤d.next.length∧d.next.length≤1024∧d.fin.length=d.next.length∧(∀s,s<d.next.length→(nth d.next s ([]:List Int)).length=m∧ ∀c,c<m→0≤nth (nth d.next s ([]:List Int)) c (0:Int)∧nth (nth d.next s ([]:List Int)) c (0:Int)<((d.next.length:Nat):Int)):=by
  simp only [rightD,Bool.and_eq_true,decide_eq_true_eq]at h
  obtain ⟨⟨⟨h1,h2⟩,h3⟩,h4⟩:=h
  cases hm:cntF d.cls with
  |none=>rw [hm]at h2;cases h2
  |some m=>
    rw [hm]at h2
    refine ⟨m,rfl,h1,h3.1,h3.2,h4,fun s hs=> ?_⟩
    have hrow:=List.all_eq_true.1 h2 _ (nth_memD (l:=d.next) (i:=s) hs [])
    simp only [goodR,Bool.and_eq_true,decide_eq_true_eq]at hrow
    refine ⟨hrow.1,fun c hc=> ?_⟩
    have hx:=List.all_eq_true.1 hrow.2 _ (nth_memD (l:=nth d.next s []) (i:=c) (by omega) 0)
    simp only [goodS,Bool.and_eq_true,decide_eq_true_eq]at hx
    exact hx
theorem row_ok{d:Dfa}{m:Nat}(h:rightD d=true)(hm:cntF d.cls=some m){s b:Nat}(hs:s<d.next.length)(hb:b<256):RowOk d m s b:=by
  obtain ⟨m',h1,h2,h3,h4,h5,h6⟩:=right_parts h
  rw [hm]at h1;cases h1
  have hcl:b<d.cls.length:=by omega
  have hc:=(cnt_mem d.cls 0 m hm).2 _ (nth_memD hcl 0)
  obtain ⟨-,h7⟩:=h6 s hs
  have h8:=h7 (nth d.cls b (0:Int)).toNat (by omega)
  exact ⟨hcl,hc.1,hc.2,h8.1,h8.2⟩
theorem toS_far{d:Dfa}(h:rightD d=true){s z:Nat}(hs:s<d.next.length)(hz:d.next.length≤z):toS d s z=BSet.zero:=by
  obtain ⟨m,hm, -⟩:=right_parts h
  unfold toS
  rw [←BSet.make_zero]
  refine BSet.make_congr fun b hb=>decide_eq_false ?_
  have:=(row_ok h hm hs hb).n1
  omega
theorem backR_snoc(d:Dfa)(s m:Nat):backR d s (m+1)=backR d s m++(if toS d s m=BSet.zero then [] else [⟨((s:Nat):Int),((m:Nat):Int),toS d s m⟩]):=by
  unfold backR
  rw [List.range_succ,List.flatMap_append];simp
theorem backR_far{d:Dfa}(h:rightD d=true){s:Nat}(hs:s<d.next.length): ∀j,backR d s (d.next.length+j)=backR d s d.next.length
  |0=>rfl
  |j+1=>by rw [←Nat.add_assoc,backR_snoc,toS_far h hs (by omega),if_pos rfl,List.append_nil,backR_far h hs j]
theorem backE_snoc(d:Dfa)(m:Nat):backE d (m+1)=backE d m++backR d m d.next.length:=by
  unfold backE
  rw [List.range_succ,List.flatMap_append];simp
theorem endsN_snoc(d:Dfa)(m:Nat):endsN d (m+1)=endsN d m++(if nth d.fin m false=true then [((m:Nat):Int)] else []):=by
  unfold endsN
  rw [List.range_succ,List.flatMap_append];simp
structure ByI (d:Dfa) (s k:Nat) (l:List BSet):Prop where
  len:l.length=1024
  at_: ∀z,z<1024→nth l z BSet.zero=BSet.make fun b=>decide (nth d.cls b (0:Int)<((k:Nat):Int)) && decide (nth (nth d.next s ([]:List Int)) (nth d.cls b (0:Int)).toNat (0:Int)=((z:Nat):Int))
theorem by_step{d:Dfa}{m s k:Nat}{l:List BSet}(h:rightD d=true)(hm:cntF d.cls=some m)(hs:s<d.next.length)(hk:k<m)(hI:ByI d s k l):
    ∃l',Bl_ d s l ((k:Nat):Int) (clsS d.cls k)=some (0,l')∧ByI d s (k+1) l':=by
  obtain ⟨m',h1,h2,h3,h4,h5,h6⟩:=right_parts h
  rw [hm]at h1;cases h1
  obtain ⟨h7,h8⟩:=h6 s hs
  have h9:=h8 k hk
  have hz:(nth (nth d.next s ([]:List Int)) k (0:Int)).toNat<l.length:=by rw [hI.len];omega
  refine ⟨l.set (nth (nth d.next s ([]:List Int)) k (0:Int)).toNat (BSet.make fun b=>(nth l (nth (nth d.next s ([]:List Int)) k (0:Int)).toNat BSet.zero).has b || (clsS d.cls k).has b),?_,⟨by rw [List.length_set];exact hI.len,fun z hz2=> ?_⟩⟩
  · unfold Bl_
    rw [show ((k:Nat):Int).toNat=k from Int.toNat_natCast k]
    have q1:0≤((k:Nat):Int)∧((k:Nat):Int)<(((nth d.next s ([]:List Int)).length:Nat):Int):=⟨by omega,by omega⟩
    have q2:0≤nth (nth d.next s ([]:List Int)) k (0:Int)∧nth (nth d.next s ([]:List Int)) k (0:Int)<1024:=⟨h9.1,by omega⟩
    first|rw [grd_mk hs,grd_mk q1,grd_mk hs,grd_mk q1,grd_mk q2,bnd_some (any_eq _ _),grd_mk q2]|rw [grd_mk q1,grd_mk q1,grd_mk q2,bnd_some (any_eq _ _),grd_mk q2]
  rw [nth_set' _ _ _ _ _ hz]
  split
  · rename_i e
    subst e
    rw [hI.at_ _ hz2]
    refine BSet.make_congr fun b hb=> ?_
    have hr:=row_ok h hm hs hb
    rw [BSet.make_has _ hb]
    unfold clsS
    rw [BSet.make_has _ hb]
    by_cases e1:nth d.cls b (0:Int)=((k:Nat):Int)
    · rw [e1,Int.toNat_natCast]
      simp;omega
    rw [decide_eq_false e1,Bool.or_false]
    congr 1
    rw [decide_eq_decide];omega
  rename_i e
  rw [hI.at_ _ hz2]
  refine BSet.make_congr fun b hb=> ?_
  have hr:=row_ok h hm hs hb
  by_cases e1:nth d.cls b (0:Int)=((k:Nat):Int)
  · rw [e1,Int.toNat_natCast,decide_eq_false (show ¬ nth (nth d.next s ([]:List Int)) k (0:Int)=((z:Nat):Int) by omega)];simp
  congr 1
  rw [decide_eq_decide];omega
theorem by_all{d:Dfa}{m s:Nat}{l:List BSet}(h:rightD d=true)(hm:cntF d.cls=some m)(hs:s<d.next.length)(hI:ByI d s m l):l.length=1024∧ ∀z,z<1024→nth l z BSet.zero=toS d s z:=
  ⟨hI.len,fun z hz=>by
    rw [hI.at_ z hz]
    unfold toS
    refine BSet.make_congr fun b hb=> ?_
    rw [decide_eq_true (row_ok h hm hs hb).c1,Bool.true_and]⟩
theorem nth_rep{α:Type}(n i:Nat)(x:α):nth (List.replicate n x) i x=x:=by
  unfold nth
  rw [List.getD_eq_getElem?_getD,List.getElem?_replicate]
  split<;>rfl
theorem bys_run{d:Dfa}{v6:List BSet×Int}{s:Nat}(h:rightD d=true)(hm:cntF d.cls=some v6.1.length)(hsets: ∀c,c<v6.1.length→nth v6.1 c BSet.zero=clsS d.cls c)(hs:s<d.next.length):
    ∃l,At_ (stepY (fun (q:(List BSet)) (x:Int×BSet)=>Bl_ d s q x.1 x.2)) (0,(List.replicate 1024 BSet.zero)) v6.1=some (0,l)∧l.length=1024∧ ∀z,z<1024→nth l z BSet.zero=toS d s z:=by
  obtain ⟨l,h1,h2⟩:=cls_run (B:=fun (q:(List BSet)) (x:Int×BSet)=>Bl_ d s q x.1 x.2) (x1:=v6.1) (ByI d s) (fun k l hk hI=>by
    dsimp only
    rw [hsets k hk];exact by_step h hm hs hk hI) (l0:=List.replicate 1024 BSet.zero) ⟨List.length_replicate,fun z _=>by
      rw [nth_rep,←BSet.make_zero]
      refine BSet.make_congr fun b hb=> ?_
      have:=(row_ok h hm hs hb).c0
      rw [decide_eq_false (by omega),Bool.false_and]⟩
  exact ⟨l,h1,by_all h hm hs h2⟩
theorem back_in{d:Dfa}{s:Nat}{l:List BSet}{E:List Int}{A0:List Arrow}(h:rightD d=true)(hs:s<d.next.length)(hl: ∀z,z<1024→nth l z BSet.zero=toS d s z)(hA:A0.length≤20000)(hn:d.next.length≤100):
    iter (fun q:(List Arrow)×Nat=>Ay_ l s E q.1 q.2) (A0,0)=some (.inl (E,A0++backR d s d.next.length,s+1)):=by
  obtain ⟨r,h1,rfl⟩:=iter_up (step:=fun q:(List Arrow)×Nat=>Ay_ l s E q.1 q.2) (fun (A:List Arrow) k=>(A,k)) 1024 (fun k A=>A=A0++backR d s k) (fun r=>r= .inl (E,A0++backR d s d.next.length,s+1))
    (fun k A hk hI=>by
      subst hI
      have hlen:=backR_len d s k
      refine .inl ⟨A0++backR d s (k+1),?_,rfl⟩
      show Ay_ l s E _ k=_
      unfold Ay_ Da_
      rw [iteO_dt (by omega),hl k hk]
      by_cases hz:toS d s k=BSet.zero
      · rw [iteO_df (by simpa using hz),backR_snoc,if_pos hz,List.append_nil];rfl
      rw [iteO_dt hz,grd_mk (by simp only [List.length_append,List.length_singleton];omega),backR_snoc,if_neg hz,List.append_assoc];rfl)
    (fun A hI=>by
      subst hI
      have hlen:=backR_len d s d.next.length
      have e:=backR_far h hs (1024 - d.next.length)
      rw [show d.next.length+(1024 - d.next.length)=1024 by omega]at e
      refine ⟨_,?_,rfl⟩
      show Ay_ l s E _ 1024=_
      unfold Ay_
      rw [iteO_df (by omega),e,iteO_df (by simp only [List.length_append];omega)];rfl) (s0:=A0) (by simp [backR])
  exact h1
theorem dback_eq {d : Dfa} (hn : d.next.length ≤ 100) : E7_ d = some (if rightD d = true then (backN d, 0) else (⟨0, [], [], []⟩, 1)) := by
  unfold E7_
  obtain ⟨v6,hv,hp⟩:=partSets_full d.cls
  rw [bnd_some hv]
  by_cases h:rightD d=true
  · rw [if_pos h]
    obtain ⟨m,hm,h2,h3,h4,h5,h6⟩:=right_parts h
    rcases hp with ⟨hp, -⟩|⟨-,hc,h0,hsets, -⟩
    · rcases hp with hp|hp
      · exact absurd h2 hp
      rw [hm]at hp;cases hp
    rw [iteO_df (by omega),dcheck_eq,bnd_mk,if_pos h,iteO_df (by simp)]
    have hm2:m=v6.1.length:=by rw [hm]at hc;exact Option.some.inj hc
    subst hm2
    obtain ⟨r,h7,rfl⟩:=iter_up (step:=fun q:(List Int)×(List Arrow)×Nat=>A6_ d v6 q.1 q.2.1 q.2.2) (fun (s:List Int×List Arrow) k=>(s.1,s.2,k)) d.next.length (fun k s=>s=(endsN d k,backE d k)) (fun r=>r=(backN d,0))
      (fun k s hk hI=>by
        subst hI
        have e1:=endsN_len d k
        have e2:=backE_len d k
        have e3:=Nat.mul_le_mul (show k≤100 by omega) hn
        obtain ⟨l,q1,q2,q3⟩:=bys_run h hm hsets hk
        refine .inl ⟨(endsN d (k+1),backE d (k+1)),?_,rfl⟩
        show A6_ d v6 _ _ k=_
        have hj: ∀E:List Int,Cq_ v6 d k (backE d k) E=some (.inl (E,backE d (k+1),k+1)):=fun E=>by
          unfold Cq_ B3_
          rw [bnd_mk,bnd_some q1]
          show Dt_ k E (backE d k) 0 l=_
          unfold Dt_
          show iter _ _=_
          rw [back_in h hk q3 (by omega) hn,backE_snoc]
        unfold A6_
        rw [iteO_dt (by omega),grd_mk (by omega),endsN_snoc]
        by_cases hf:nth d.fin k false=true
        · rw [hf,iteO_true,if_pos rfl,grd_mk (by simp only [List.length_singleton];omega),hj]
        simp only [Bool.not_eq_true]at hf
        rw [hf,iteO_false,if_neg (by simp),List.append_nil,hj])
      (fun s hI=>by
        subst hI
        refine ⟨_,?_,rfl⟩
        show A6_ d v6 _ _ d.next.length=_
        unfold A6_
        rw [iteO_df (by omega)];rfl) (s0:=([],[])) (by simp [endsN,backE])
    exact h7
  rw [if_neg h,dcheck_eq]
  by_cases hv2:v6.2=0
  · rw [iteO_df (by omega),bnd_mk,if_neg h,iteO_dt (by simp)]
  rw [iteO_dt hv2]
theorem gstarts_run{v5:Nfa×Int}{x1:List UInt8}{x2:Bool}{n:Int}{R:Fst×Int}(hs:v5.1.starts=[0])
    (hnext:iter (fun q:Int×(List Tip)×(List Tip)×(List Arc)×Bool×Nat=>Aw_ v5 x1 x2 q.1 q.2.1 q.2.2.1 q.2.2.2.1 q.2.2.2.2.1 q.2.2.2.2.2) (n,[⟨0,[]⟩],[],[],false,0)=some R):
    iter (fun q:Int×(List Tip)×(List Tip)×(List Arc)×Bool×Nat=>A5_ v5 x1 x2 q.1 q.2.1 q.2.2.1 q.2.2.2.1 q.2.2.2.2.1 q.2.2.2.2.2) (n,[],[],[],false,0)=some R:=by
  have h1:A5_ v5 x1 x2 n [] [] [] false 0=some (.inl (n,[⟨0,[]⟩],[],[],false,1)):=by
    unfold A5_
    rw [hs,iteO_dt (by simp),start_eq,bnd_mk];rfl
  refine iter_next (s':=(n,[⟨0,[]⟩],[],[],false,1)) h1 (iter_done ?_)
  show A5_ v5 x1 x2 n [⟨0,[]⟩] [] [] false 1=_
  unfold A5_
  rw [hs,iteO_df (by simp)]
  show fin _=_
  rw [hnext];rfl
theorem ratBack_eq {d : Dfa} (hn : d.next.length ≤ 100) (out : List UInt8) (c : Bool) (ho : out.length ≤ 1024) : E8_ d out c = some (if rightD d = true then (mkF d out c, 0) else (⟨0, [], [], []⟩, 1)) := by
  unfold E8_
  rw [grd_mk (by omega),dback_eq hn,bnd_mk]
  by_cases h:rightD d=true
  · rw [if_pos h,if_pos h]
    dsimp only
    rw [iteO_df (by simp)]
    have e1:=endsN_len d d.next.length
    have e2:=backE_len d d.next.length
    have e3:=Nat.mul_le_mul hn hn
    refine gstarts_run (v5:=(backN d,0)) rfl ?_
    obtain ⟨r,h1,rfl⟩:=iter_up (step:=fun q:Int×(List Tip)×(List Tip)×(List Arc)×Bool×Nat=>Aw_ (backN d,0) out c q.1 q.2.1 q.2.2.1 q.2.2.2.1 q.2.2.2.2.1 q.2.2.2.2.2) (fun (E:List Tip) k=>(((d.next.length:Nat):Int),[⟨0,[]⟩],E,[],false,k)) (endsN d d.next.length).length
      (fun k E=>E=((endsN d d.next.length).take k).map fun s=>⟨s,out⟩) (fun r=>r=(mkF d out c,0))
      (fun k E hk hI=>by
        subst hI
        refine .inl ⟨_,?_,rfl⟩
        show Aw_ (backN d,0) out c _ _ _ _ _ k=_
        unfold Aw_
        show iteO (decide (((k:Nat):Int)<(((endsN d d.next.length).length:Nat):Int))) _ _=_
        rw [iteO_dt (by omega),end_eq,bnd_mk]
        unfold growEn
        rw [if_neg (by simp only [Bool.false_eq_true,false_or,List.length_map,List.length_take];omega)]
        rw [List.take_add_one,getD_some _ hk 0,Option.toList_some,List.map_append];rfl)
      (fun E hI=>by
        subst hI
        rw [List.take_length]
        refine ⟨_,?_,rfl⟩
        show Aw_ (backN d,0) out c _ _ _ _ _ (endsN d d.next.length).length=_
        unfold Aw_
        show iteO (decide ((((endsN d d.next.length).length:Nat):Int)<(((endsN d d.next.length).length:Nat):Int))) _ _=_
        rw [iteO_df (by omega)]
        obtain ⟨r,h1,rfl⟩:=iter_up (step:=fun q:Int×(List Tip)×(List Tip)×(List Arc)×Bool×Nat=>A9_ (backN d,0) c q.1 q.2.1 q.2.2.1 q.2.2.2.1 q.2.2.2.2.1 q.2.2.2.2.2) (fun (A:List Arc) k=>(((d.next.length:Nat):Int),[⟨0,[]⟩],(endsN d d.next.length).map (fun s=>(⟨s,out⟩:Tip)),A,false,k)) (backE d d.next.length).length
          (fun k A=>A=((backE d d.next.length).take k).map fun x=>⟨x.frm,x.to,x.set,[],c⟩) (fun r=>r=(mkF d out c,0))
          (fun k A hk hI=>by
            subst hI
            refine .inl ⟨_,?_,rfl⟩
            show A9_ (backN d,0) c _ _ _ _ _ k=_
            unfold A9_
            show iteO (decide (((k:Nat):Int)<(((backE d d.next.length).length:Nat):Int))) _ _=_
            rw [iteO_dt (by omega),arc_eq,bnd_mk]
            unfold growAr
            rw [if_neg (by simp only [Bool.false_eq_true,false_or,List.length_map,List.length_take,List.length_nil];omega)]
            rw [List.take_add_one,getD_some _ hk Arrow.zero,Option.toList_some,List.map_append];rfl)
          (fun A hI=>by
            subst hI
            rw [List.take_length]
            refine ⟨_,?_,rfl⟩
            show A9_ (backN d,0) c _ _ _ _ _ (backE d d.next.length).length=_
            unfold A9_
            show iteO (decide ((((backE d d.next.length).length:Nat):Int)<(((backE d d.next.length).length:Nat):Int))) _ _=_
            rw [iteO_df (by omega),look_eq,bnd_mk]
            unfold lookG
            rw [if_neg (by simp only [Bool.false_eq_true,false_or];omega)];rfl) (s0:=[]) (by simp)
        show fin (iter _ _)=_
        rw [h1];rfl) (s0:=[]) (by simp)
    exact h1
  rw [if_neg h,if_neg h];rfl
theorem cross_eq{d:Dfa}(hn:d.next.length≤100)(out:List UInt8)(ho:out.length≤281474976710656):Dm_ d out=some (if rightD d=true then (if 1024<out.length then (⟨0,[],[],[]⟩,2) else (mkF d out false,0)) else (⟨0,[],[],[]⟩,1)):=by
  unfold Dm_
  rw [grd_mk ho,dcheck_eq,bnd_mk]
  by_cases h:rightD d=true
  · rw [if_pos h,if_pos h,iteO_df (by simp)]
    by_cases h2:1024<out.length
    · rw [iteO_dt (by omega),if_pos h2]
    rw [iteO_df (by omega),if_neg h2,ratBack_eq hn out false (by omega),bnd_mk,if_pos h]
  rw [if_neg h,if_neg h,iteO_dt (by simp)]
end Go.Proofs.YtamgjehhjkgelaaGreatDoor
end

noncomputable section
namespace Go.Proofs.YtamgjehhjkgelaaGreatDoor
open Go Go.E
end Go.Proofs.YtamgjehhjkgelaaGreatDoor
end

noncomputable section
namespace Go.Proofs.YtamgjehhjkgelaaGreatDoor
open Go Go.E
def srt(t:Fst):Fst:=⟨t.states,onceL Tip.zero cmpTip t.starts,onceL Tip.zero cmpTip t.ends,onceL Arc.zero cmpArc t.arcs⟩
theorem sort_eq(t:Fst):Cb_ t=some (if fstB t=true then (srt t,0) else (⟨0,[],[],[]⟩,1)):=by
  unfold Cb_
  rw [Ds_,bnd,Option.bind_some,errB_ne]
  by_cases h:fstB t=true
  · have ht:=(fstB_iff t).1 h
    have h1:=ht.startsN
    have h2:=ht.endsN
    have h3:=ht.arcsN
    rw [h,if_pos rfl,Bool.not_true,iteO_false]
    simp only [Gs_ (l:=t.starts) (by omega),Gs_ (l:=t.ends) (by omega),Hv_ (l:=t.arcs) (by omega),bnd,Option.bind_some]
    rfl
  simp only [Bool.not_eq_true]at h
  rw [h];rfl
structure Alike (s t:Fst):Prop where
  states:s.states=t.states
  starts: ∀x,x∈s.starts↔x∈t.starts
  ends: ∀x,x∈s.ends↔x∈t.ends
  arcs: ∀x,x∈s.arcs↔x∈t.arcs
theorem srt_ok{t:Fst}(ht:FstOk t):FstOk (srt t) where
  st0:=ht.st0
  st1:=ht.st1
  arcsN:=Nat.le_trans (Gb_ _) ht.arcsN
  startsN:=Nat.le_trans (Gb_ _) ht.startsN
  endsN:=Nat.le_trans (Gb_ _) ht.endsN
  starts p hp:=ht.starts p (mem_onceL.1 hp)
  ends p hp:=ht.ends p (mem_onceL.1 hp)
  arcs a ha:=ht.arcs a (mem_onceL.1 ha)
structure Within (s t:Fst):Prop where
  starts: ∀x∈s.starts,x∈t.starts
  ends: ∀x∈s.ends,x∈t.ends
  arcs: ∀x∈s.arcs,x∈t.arcs
theorem mem_endT{t:Fst}{S:List FPair}{o:List UInt8}:o∈endT t S↔ ∃p∈S, ∃e∈t.ends,e.state=p.state∧o=p.out++e.out:=by
  simp only [endT,List.mem_flatMap,List.mem_map,List.mem_filter,decide_eq_true_eq]
  constructor
  · rintro ⟨p,hp,_,⟨e,⟨he,h1⟩,rfl⟩,h2⟩;exact ⟨p,hp,e,he,h1,h2.symm⟩
  rintro ⟨p,hp,e,he,h1,h2⟩;exact ⟨p,hp,_,⟨e,⟨he,h1⟩,rfl⟩,h2.symm⟩
theorem mem_outsL{t:Fst}{w o:List UInt8}:o∈outsL t w↔ ∃p∈pairsL t w, ∃e∈t.ends,e.state=p.state∧o=p.out++e.out:=by rw [outsL,mem_onceL,mem_endT]
theorem outsL_rise(t:Fst)(w:List UInt8):(outsL t w).Pairwise fun x y=>Lib.compareBytes x y<0:=sorted_onceL cmpB_good _
theorem same_run{α R:Type}{step:Nat→Option (Nat⊕R)}{y:R}(n:Nat)(hs: ∀k,k<n→step k=some (.inl (k+1)))(hd:step n=some (.inr y)):iter step 0=some y:=iter_seq0 (fun k=>k) n hs hd
theorem texts_refl(l:List (List UInt8)):Au_ l l=some true:=by
  unfold Au_
  rw [decide_eq_false (by simp),iteO_false]
  refine same_run (α:=Unit) l.length (fun k hk=> ?_) ?_
  · simp only [Ao_,lt_dec hk,iteO_true,grd_mk hk,ne_eq,not_true_eq_false,decide_false,iteO_false];rfl
  simp only [Ao_,Int.lt_irrefl,decide_false,iteO_false];rfl
end Go.Proofs.YtamgjehhjkgelaaGreatDoor
end

noncomputable section
namespace Go.E
open Go
theorem OpVal.gtrBs{P:Program}{n:Nat}{e:Env}{H:List Res}{o:Oper}{x y:Operand}{l m:List UInt8}{T T':TypeId}(ho:o.op= .binOp .gtr T x y T')(hx:ev e x= .string (bs l))(hy:ev e y= .string (bs m)):OpVal P n o e σ H (.bool (!(decide (Lib.compareBytes l m<0) || l == m))):=fun w _=>by
  simp only [execOp,ho,hx,hy,Sem.run_bind,run_eqGuard_str,Result.andThen_ok,binOp,Op.stringOp,ByteArray.toList_eq,bs_list,bytesLess_eq,Sem.run_pure]
end Go.E
end

noncomputable section
namespace Go.Proofs.YtamgjehhjkgelaaGreatDoor
open Go Go.E Go.E.OpVal Go.E.OpOk Go.Proofs.Tryz
theorem pf104:plainF Tryz.prog 104=true:=by kernel_rfl
theorem pf131:plainF Tryz.prog 131=true:=by kernel_rfl
def isNaNS(x0:List UInt8):Option (Bool):=
 some (decide (x0≠x0))
theorem isNaNS_con{x0:List UInt8}{r:Bool}(hh:isNaNS x0=some r):
  Con Tryz.prog 131 #[.string (bs x0)] σ [] (PureP (.bool r) σ):=by
 dsimp only [isNaNS]at hh
 refine Con.mk (n:=6) Tryz.func131 z z z (fun w0=> ?_)
 refine TC.a (TL.j z z (TL.en (TC.a (TL.w z (moveStr (.inl z) z) (TL.w z (moveStr (.inl z) z) (TL.w z (neqBs z z z) (TL.j z z (TL.en (TC.ret ?_)))))))))
 obtain rfl:=so hh
 exact rq [2] ⟨z,z,z⟩
def compareS(x0:List UInt8)(x1:List UInt8):Option (Int):=
 bnd (isNaNS x0) (fun v3=>bnd (isNaNS x1) (fun v6=>iteO v3 (iteO v6 (some 0) (some (-1))) (iteO v6 (some 1) (iteO (decide (Lib.compareBytes x0 x1<0)) (some (-1)) (iteO (!(decide (Lib.compareBytes x0 x1<0) || x0 == x1)) (some 1) (some 0))))))
theorem compareS_con{x0:List UInt8}{x1:List UInt8}{r:Int}(hh:compareS x0 x1=some r):
  Con Tryz.prog 104 #[.string (bs x0),.string (bs x1)] σ [] (PureP (.int .i64 r) σ):=by
 dsimp only [compareS]at hh
 refine Con.mk (n:=20) Tryz.func104 z z z (fun w0=> ?_)
 refine TC.a (TL.i z z (TL.en (TC.a (TL.w z (moveStr (.inl z) z) ?_))))
 obtain ⟨v3,u3,hh⟩:=bnd_e hh
 refine TL.op z (callP (isNaNS_con u3) z z pf131 z z z ?_)
 refine TL.j z z (TL.en (TC.a (TL.w z (moveStr (.inl z) z) ?_)))
 obtain ⟨v6,u6,hh⟩:=bnd_e hh
 refine TL.op z (callP (isNaNS_con u6) z z pf131 z z z ?_)
 refine TL.j z z (TL.en (TC.seq (TC.a (TL.j z z (TL.en (TC.cB z hh (fun h101 hh=> ?_) (fun h101 hh=> ?_)))))))
 ·refine TC.seq (TC.a (TL.j z z (TL.en (TC.cB z hh (fun h102 hh=> ?_) (fun h102 hh=> ?_)))))
  ·refine TC.a (TL.i z z (TL.en (TC.ret (S.r (S.r ?_)))))
   obtain rfl:=so hh
   exact rq [4] ⟨z,z,z⟩
  refine TC.skip (S.n (TC.a (TL.i z z (TL.en (TC.ret (S.r ?_))))))
  obtain rfl:=so hh
  exact rq [4] ⟨z,z,z⟩
 refine TC.skip (S.n (TC.seq (TC.a (TL.j z z (TL.en (TC.cB z hh (fun h103 hh=> ?_) (fun h103 hh=> ?_)))))))
 ·refine TC.a (TL.i z z (TL.en (TC.ret (S.r ?_))))
  obtain rfl:=so hh
  exact rq [4] ⟨z,z,z⟩
 refine TC.skip (S.n (TC.seq (TC.a (TL.w z (moveStr (.inl z) z) (TL.w z (moveStr (.inl z) z) (TL.w z (lssBs z z z) (TL.en (TC.cD z hh (fun h104 hh=> ?_) (fun h104 hh=> ?_)))))))))
 ·refine TC.a (TL.i z z (TL.en (TC.ret (S.r ?_))))
  obtain rfl:=so hh
  exact rq [4] ⟨z,z,z⟩
 refine TC.skip (S.n (TC.seq (TC.a (TL.w z (moveStr (.inl z) z) (TL.w z (moveStr (.inl z) z) (TL.w z (gtrBs z z z) (TL.en (TC.cB z hh (fun h105 hh=> ?_) (fun h105 hh=> ?_)))))))))
 ·refine TC.a (TL.i z z (TL.en (TC.ret (S.r ?_))))
  obtain rfl:=so hh
  exact rq [4] ⟨z,z,z⟩
 refine TC.skip (S.n (TC.a (TL.i z z (TL.en (TC.ret ?_)))))
 obtain rfl:=so hh
 exact rq [4] ⟨z,z,z⟩
def comp_compare(x0:Tip)(x1:Tip):Option (Int):=
 bnd (A7_ x0.state x1.state) (fun v8=>bnd (compareS x0.out x1.out) (fun v13=>bnd (E4_ [v8,v13]) (fun v15=>some v15)))
theorem comp_compare_con{x0:Tip}{x1:Tip}{r:Int}(hh:comp_compare x0 x1=some r):
  Con Tryz.prog 69 #[.agg #[.int .i64 x0.state,.string (bs x0.out)],.agg #[.int .i64 x1.state,.string (bs x1.out)]] σ [] (PureP (.int .i64 r) σ):=by
 dsimp only [comp_compare]at hh
 refine Con.mk (n:=17) Tryz.func69 z z z (fun w0=> ?_)
 refine TC.a (TL.op z (boxA z z z z (fun b101=> ?_)))
 refine TL.op z (boxA z z z z (fun b103=> ?_))
 refine TL.i z z (TL.en (TC.seq ?_))
 obtain ⟨v8,u8,hh⟩:=bnd_e hh
 obtain ⟨v13,u13,hh⟩:=bnd_e hh
 obtain ⟨v15,u15,hh⟩:=bnd_e hh
 refine TC.draw [] (by kernel_rfl) (TA.a 0 z (fieldLoc z fo43_0 z) z (TA.b 1 z (loadLoc z ag3 z (i:=1) z z) z (TA.a 2 z (fieldLoc z fo43_0 z) z (TA.b 3 z (loadLoc z ag3 z (i:=0) z z) z (TA.a 5 z (fieldLoc z fo43_1 z) z (TA.b 6 z (loadLoc z ag9 z (i:=1) z z) z (TA.a 7 z (fieldLoc z fo43_1 z) z (TA.b 8 z (loadLoc z ag9 z (i:=0) z z) z (TA.ac 4 z (callP (B2_ u8) z z pf93 z z z (k0 ?_)))))))))))
 refine TA.ac 9 z (callP (compareS_con u13) z z pf104 z z z (k0 ?_))
 refine TA.ac 10 z (OpOk.lit (enc:=eI_) [v8,v13] z underlying46 sz3 ze3 z z z eIl_ (by decide) (by decide) (0:Int) z (by decide) z (by decide) eIo_ (fun a110 c111=>(k1 ?_)))
 refine TA.ac 11 z (callK (Con.lend eIl_ (fun _ hle114 hr113=>Fr_ hr113 u15)) z z pf92 z z z z (k1 ?_))
 refine TA.a 12 z (moveI (.inr z) z) z (TA.dn (S.n (TC.rt 0 ?_)))
 obtain rfl:=so hh
 exact rq [4] ⟨z,z,z⟩
end Go.Proofs.YtamgjehhjkgelaaGreatDoor
end

noncomputable section
namespace Go.Proofs.YtamgjehhjkgelaaGreatDoor
open Go Go.E
theorem cmpB_vals : ∀ x y : List UInt8, (iteO (decide (Lib.compareBytes x y < 0)) (some (-1 : Int)) (iteO (!(decide (Lib.compareBytes x y < 0) || x == y)) (some 1) (some 0))) = some (Lib.compareBytes x y)
  |[],[]=>rfl
  |[],_::_=>rfl
  |_::_,[]=>rfl
  | a :: x, b :: y => by
    have ih:=cmpB_vals x y
    unfold Lib.compareBytes
    by_cases h:a<b
    · rw [if_pos h];rfl
    rw [if_neg h]
    by_cases h2:b<a
    · rw [if_pos h2]
      have:(a::x == b::y)=false:=by
        rw [beq_eq_false_iff_ne]
        intro e;cases e;exact h h2
      rw [this];rfl
    rw [if_neg h2]
    have e:a=b:=UInt8.le_antisymm (UInt8.not_lt.1 h2) (UInt8.not_lt.1 h)
    subst e
    have:(a::x == a::y)=(x == y):=by simp
    rw [this];exact ih
theorem compareS_eq(x y:List UInt8):compareS x y=some (Lib.compareBytes x y):=by
  unfold compareS isNaNS
  rw [←cmpB_vals x y]
  simp [bnd,iteO]
theorem comp_compare_eq(x y:Tip):comp_compare x y=some (cmpTip x y):=by
  unfold comp_compare
  rw [bnd_some (B8_ _ _),bnd_some (compareS_eq _ _),bnd_some (Gd_ _)];rfl
theorem Hu_{a:Option Addr}{c:Nat}{l:List Tip}:Con Tryz.prog 68 #[.slice a l.length c,.func (.func 69) #[] #[]] σ [Res.rowS 43 2 encTip (.slice a l.length c) l] (SortP 43 2 encTip a c l (sortL cmpTip l) σ):=
  Con.sortK (k:=2) layT0 rfl Tryz.isAgg43 Tryz.sizeOf43 encTip_len encTip_one cmpTip_good.total (fun args w=>run_callFunc (by kernel_rfl) args w) (fun x y τ=>comp_compare_con (comp_compare_eq x y))
end Go.Proofs.YtamgjehhjkgelaaGreatDoor
end

noncomputable section
namespace Go.Proofs.YtamgjehhjkgelaaGreatDoor
open Go Go.E Go.E.OpVal Go.E.OpOk Go.Proofs.Tryz
theorem kl43:Go.E.KeyL Tryz.prog 43 (fun x=>Value.agg (Go.E.encTip x).toArray):=
 KeyL.struct underlying43 es43 rfl (fun x=>CkAt.struct (n:=1) (ts:=[(false,3,0),(false,9,1)]) (by kernel_rfl) (by kernel_rfl) (CkC.one (by kernel_rfl) rfl (CkAt.int underlying3 _) (CkC.one (by kernel_rfl) rfl (CkAt.str underlying9 _) CkC.nil))) rfl encTip_bits
theorem sz82:szOf Tryz.prog 82=some 0:=by kernel_rfl
def comp_leaving_j1(l118:List (List Arc))(x0:Fst)(k122:Nat):Option (((List (List Arc))×Nat)⊕((List (List Arc)))):=
 nxt ((l118.set (((nth x0.arcs k122 Arc.zero).frm).toNat) ((nth l118 (((nth x0.arcs k122 Arc.zero).frm).toNat) ([]:List Arc))++[(nth x0.arcs k122 Arc.zero)])),(k122+1))
def comp_leaving_b1(x0:Fst)(l118:List (List Arc))(k122:Nat):Option (((List (List Arc))×Nat)⊕((List (List Arc)))):=
 iteO (decide (((k122:Nat):Int)<((x0.arcs.length:Nat):Int))) (grd (0≤((nth x0.arcs k122 Arc.zero).frm)∧((nth x0.arcs k122 Arc.zero).frm)<(l118.length:Int)) (grd (((nth l118 (((nth x0.arcs k122 Arc.zero).frm).toNat) ([]:List Arc)).length+[(nth x0.arcs k122 Arc.zero)].length) * 72≤140737488355328) (grd (0≤((nth x0.arcs k122 Arc.zero).frm)∧((nth x0.arcs k122 Arc.zero).frm)<(l118.length:Int)) (comp_leaving_j1 l118 x0 k122)))) (fin (some l118))
def comp_leaving(x0:Fst):Option ((List (List Arc))):=
 grd (0≤x0.states∧24 * x0.states.toNat≤281474976710656) (iter (fun q:(List (List Arc))×Nat=>comp_leaving_b1 x0 q.1 q.2) ((List.replicate x0.states.toNat ([]:List Arc)),0))
def comp_leaving_P(σ:Store)(r:(List (List Arc))):Value→Store→List Res→Prop:=fun v σ' H'=>
 ∃a1 c1,v= .slice a1 r.length c1∧RZ σ' (pkSl 8 encArc encArc_len) (.slice a1 r.length c1) r∧H'=[]
theorem comp_leaving_con{x0:Fst}(f0_0:RS σ 2 encTip (.slice a0_0 x0.starts.length c0_0) x0.starts)(f0_1:RS σ 2 encTip (.slice a0_1 x0.ends.length c0_1) x0.ends)(f0_2:RS σ 8 encArc (.slice a0_2 x0.arcs.length c0_2) x0.arcs){r:(List (List Arc))}(hh:comp_leaving x0=some r):
  Con Tryz.prog 22 #[.agg #[.int .i64 x0.states,.slice a0_0 x0.starts.length c0_0,.slice a0_1 x0.ends.length c0_1,.slice a0_2 x0.arcs.length c0_2]] σ [] (comp_leaving_P σ r):=by
 dsimp only [comp_leaving]at hh
 have f0_0b:=f0_0.rv.big
 have f0_1b:=f0_1.rv.big
 have f0_2b:=f0_2.rv.big
 refine Con.mk (n:=30) Tryz.func22 z z z (fun w0=> ?_)
 refine TC.a (TL.op z (boxA z z z z (fun b101=> ?_)))
 refine TL.s z z (TL.en (TC.a (TL.w z (fieldLoc z fo25_0 z) (TL.w z (loadLoc z ag3 z (i:=0) z z) ?_))))
 have u5:=grd_c hh
 replace hh:=grd_t hh
 refine TL.op rfl (makeN (q:=x0.states.toNat) (E:=66) (size:=8) (enc:=encArc) rfl underlying68 sz23 by23 ze23 rfl rfl (vN u5.1) (vN u5.1) (by omega) (by decide) rfl (fun a103 c104 zf105=> ?_))
 refine TL.s z z (TL.en (TC.seq (TC.a (TL.w z (fieldLoc z fo25_3 z) (TL.w z (loadLoc z ag23 z (i:=1) z z) (TL.w z (lenC z underlying23 z) (TL.i z z (TL.en (TC.block (TC.loopG (α:=((List (List Arc))×Nat)×((List (NP Arc)))) (rgs [(5,1),(12,17)]) (fun g=>[(12,.int .i64 ((g.1.2:Nat):Int))]) (fun g=>[Res.nest 23 66 8 encArc (.slice a103 (List.replicate x0.states.toNat ([]:List Arc)).length c104) g.2]) (fun g=>σ) (fun g=>iter (fun q:(List (List Arc))×Nat=>comp_leaving_b1 x0 q.1 q.2) g.1=some r∧g.1.1.length=(List.replicate x0.states.toNat ([]:List Arc)).length∧Zn g.2 g.1.1) (fun g=>rounds (fun q:(List (List Arc))×Nat=>comp_leaving_b1 x0 q.1 q.2) g.1) (((List.replicate x0.states.toNat ([]:List Arc)),0),(List.replicate x0.states.toNat (nilN:NP Arc))) (Sub.pre 1 z) z (by repeat (first|exact trivial|refine ⟨z,?_⟩)) ⟨hh,z,zf105⟩ (fun g1 j1 hg1=> ?_)))))))))))
 obtain ⟨⟨l118,k122⟩,z120⟩:=g1
 obtain ⟨hh,hn119,zf121⟩:=hg1
 try dsimp only at hn119 zf121 ⊢
 obtain ⟨z1,hh,hR1⟩:=iter_e hh
 dsimp only [comp_leaving_b1]at hh
 have hn119b:=hn119
 have zf121b:=zf121.len
 refine TC.know (isSl_nest (q:=0) z zf121) (fun ⟨_,hb123⟩=> ?_)
 refine TC.a (TL.w z (OpVal.lss z z z) (TL.en (TC.seq (TC.cD z hh (fun h124 hh=> ?_) (fun h124 hh=> ?_)))))
 ·refine TC.skip (S.n (TC.cutG (α:=(Unit)×((List (NP Arc)))) (rgs [(5,1),(14,14)]) (fun g=>[]) (fun g=>[Res.nest 23 66 8 encArc (.slice a103 (List.replicate x0.states.toNat ([]:List Arc)).length c104) g.2]) (fun g=>σ) (fun g=>comp_leaving_j1 l118 x0 k122=some z1∧(l118.set (((nth x0.arcs k122 Arc.zero).frm).toNat) ((nth l118 (((nth x0.arcs k122 Arc.zero).frm).toNat) ([]:List Arc))++[(nth x0.arcs k122 Arc.zero)])).length=(List.replicate x0.states.toNat ([]:List Arc)).length∧Zn g.2 (l118.set (((nth x0.arcs k122 Arc.zero).frm).toNat) ((nth l118 (((nth x0.arcs k122 Arc.zero).frm).toNat) ([]:List Arc))++[(nth x0.arcs k122 Arc.zero)]))) ?_ (fun g j hg=> ?_)))
  ·skip
   refine TC.block (TC.a (TL.w z (indexN z underlying23 sz66 z z f0_2.rv.sl (by omega)) (TL.w z (loadSA Arc.zero z ag66 sz66 z f0_2 (by omega) (by omega)) (TL.op z (OpOk.alloc z ze66 z z (fun b128=> ?_))))))
   refine TL.op z (storeAll z sz66 z z z z z z ?_)
   refine TL.en ?_
   have u22:=grd_c hh
   replace hh:=grd_t hh
   have u26:=grd_c hh
   replace hh:=grd_t hh
   have u27:=grd_c hh
   replace hh:=grd_t hh
   refine TC.drawR (Hr:=[Res.cells b128 #[.int .i64 ((nth x0.arcs k122 Arc.zero).frm),.int .i64 ((nth x0.arcs k122 Arc.zero).to),.int .u64 ((((nth x0.arcs k122 Arc.zero).set).a:Nat):Int),.int .u64 ((((nth x0.arcs k122 Arc.zero).set).b:Nat):Int),.int .u64 ((((nth x0.arcs k122 Arc.zero).set).c:Nat):Int),.int .u64 ((((nth x0.arcs k122 Arc.zero).set).d:Nat):Int),.string (bs ((nth x0.arcs k122 Arc.zero).out)),.bool ((nth x0.arcs k122 Arc.zero).copy)] 66]) (fun r hr=>mem_pick [0] z hr) [] (by kernel_rfl) (TA.a 0 z (moveSl (.inl z) z) z (TA.a 1 z (fieldLoc z fo66_0 z) z (TA.b 2 z (loadLoc z ag3 z (i:=0) z z) z (TA.a 3 z (moveSl (.inl z) z) z (TA.a 4 z (fieldLoc z fo66_0 z) z (TA.b 5 z (loadLoc z ag3 z (i:=0) z z) z (TA.know (isSl_nest (q:=1) z zf121) (fun ⟨hs141,hs141b⟩=> ?_))))))))
   refine TA.b 6 z (OpVal.index z underlying68 sz23 z z hs141 u22.1 u22.2) z (TA.b 8 z (loadAll z ag66 sz66 z (i:=0) z z) z ?_)
   obtain ⟨p142,hz142,hm142⟩:=Zn.at zf121 (i:=((nth x0.arcs k122 Arc.zero).frm).toNat) (by omega)
   refine TA.actN [7,9] (by kernel_rfl) (an z z (OpVal.ok (loadN z ag23 z (q:=1) z hz142 hm142) z z ⟨(fun w h=>sees_of (Store.le.refl _) (fun r hr=>mem_pick [0] z hr) w h),?_⟩) (an z z (OpOk.lit (enc:=encArc) [(nth x0.arcs k122 Arc.zero)] z underlying23 sz66 ze66 z z z encArc_len (by decide) (by decide) Arc.zero z (by decide) z (by decide) encArc_one (fun a143 c144=>⟨(fun w h=>sees_of (Store.le.refl _) (fun r hr=>mem_pick [1] z hr) w h),?_⟩)) (True.intro)))
   ·skip
    refine TA.ac 9 z (OpOk.lit (enc:=encArc) [(nth x0.arcs k122 Arc.zero)] z underlying23 sz66 ze66 z z z encArc_len (by decide) (by decide) Arc.zero z (by decide) z (by decide) encArc_one (fun a146 c147=>⟨(fun w h=>sees_of (Store.le.refl _) (fun r hr=>mem_pick [1] z hr) w h),?_⟩))
    refine TA.front 2 z z (TA.by (fun w h=>Reach.takeN hz142 hm142 h) (TA.ac 10 z (appendS z z underlying23 sz66 by66 ze66 z z (by decide) z z z (.inr ⟨_,1,z⟩) (by simpa using u26) (by decide) (fun a150 c151=>(k3 ?_)))))
    refine TA.know (isSl_nestX (q:=1) z zf121) (fun ⟨hs152,hs152b⟩=> ?_)
    refine TA.b 11 z (OpVal.index z underlying68 sz23 z z hs152 u27.1 u27.2) z (TA.front 1 z z (TA.front 1 z z ?_))
    have hn154:(l118.set (((nth x0.arcs k122 Arc.zero).frm).toNat) ((nth l118 (((nth x0.arcs k122 Arc.zero).frm).toNat) ([]:List Arc))++[(nth x0.arcs k122 Arc.zero)])).length=(List.replicate x0.states.toNat ([]:List Arc)).length:=(List.length_set ..).trans hn119
    refine TA.ac 12 rfl (storeX (l':=((nth l118 (((nth x0.arcs k122 Arc.zero).frm).toNat) ([]:List Arc))++[(nth x0.arcs k122 Arc.zero)])) rfl sz23 rfl rfl rfl rfl rfl (by rw [zf121.len];omega) zf121 (fun zf153=>(k2 ?_)))
    exact TA.dn (B.n (S.n (cf ((),(z120.set (((nth x0.arcs k122 Arc.zero).frm).toNat) (((nth l118 (((nth x0.arcs k122 Arc.zero).frm).toNat) ([]:List Arc))++[(nth x0.arcs k122 Arc.zero)]),(a150,c151)))) ⟨hh,hn154,zf153⟩ (Sub.pre 1 z))))
   skip
   obtain ⟨p155,hz155,hm155⟩:=Zn.at zf121 (i:=((nth x0.arcs k122 Arc.zero).frm).toNat) (by omega)
   refine TA.ac 7 z (OpVal.ok (loadN z ag23 z (q:=2) z hz155 hm155) z z ⟨(fun w h=>sees_of (Store.le.refl _) (fun r hr=>mem_pick [1] z hr) w h),?_⟩)
   refine TA.front 2 z z (TA.by (fun w h=>Reach.takeN hz155 hm155 h) (TA.ac 10 z (appendS z z underlying23 sz66 by66 ze66 z z (by decide) z z z (.inr ⟨_,1,z⟩) (by simpa using u26) (by decide) (fun a157 c158=>(k3 ?_)))))
   refine TA.know (isSl_nestX (q:=1) z zf121) (fun ⟨hs159,hs159b⟩=> ?_)
   refine TA.b 11 z (OpVal.index z underlying68 sz23 z z hs159 u27.1 u27.2) z (TA.front 1 z z (TA.front 1 z z ?_))
   have hn161:(l118.set (((nth x0.arcs k122 Arc.zero).frm).toNat) ((nth l118 (((nth x0.arcs k122 Arc.zero).frm).toNat) ([]:List Arc))++[(nth x0.arcs k122 Arc.zero)])).length=(List.replicate x0.states.toNat ([]:List Arc)).length:=(List.length_set ..).trans hn119
   refine TA.ac 12 rfl (storeX (l':=((nth l118 (((nth x0.arcs k122 Arc.zero).frm).toNat) ([]:List Arc))++[(nth x0.arcs k122 Arc.zero)])) rfl sz23 rfl rfl rfl rfl rfl (by rw [zf121.len];omega) zf121 (fun zf160=>(k2 ?_)))
   exact TA.dn (B.n (S.n (cf ((),(z120.set (((nth x0.arcs k122 Arc.zero).frm).toNat) (((nth l118 (((nth x0.arcs k122 Arc.zero).frm).toNat) ([]:List Arc))++[(nth x0.arcs k122 Arc.zero)]),(a157,c158)))) ⟨hh,hn161,zf160⟩ (Sub.pre 1 z))))
  skip
  obtain ⟨_,z126⟩:=g
  obtain ⟨hh,hn125,zf127⟩:=hg
  try dsimp only at hn125 zf127 ⊢
  dsimp only [comp_leaving_j1]at hh
  have hn125b:=hn125
  have zf127b:=zf127.len
  refine TC.know (isSl_nest (q:=0) z zf127) (fun ⟨_,hb162⟩=> ?_)
  refine TC.region (TL.w z (OpVal.succ z z z (by omega)) (TL.i z z (TL.en ?_)))
  obtain ⟨hh,hlt163⟩:=nxt_x hR1 hh
  exact lf (((l118.set (((nth x0.arcs k122 Arc.zero).frm).toNat) ((nth l118 (((nth x0.arcs k122 Arc.zero).frm).toNat) ([]:List Arc))++[(nth x0.arcs k122 Arc.zero)])),(k122+1)),z126) hlt163 ⟨hh,hn125,zf127⟩ (Sub.pre 1 z)
 refine TC.exit (S.x (S.x ?_))
 replace hh:=fin_x hR1 hh
 refine TC.exitHere (S.n (TC.a (TL.s z z (TL.s z z (TL.en ?_)))))
 rw [←hn119]
 refine TC.seals (fun w h=>Reach.sealNest encArc_len zf121 h) (fun τ166 hle165 hr164=> ?_)
 have hr164b:=hr164.big
 refine TC.ret ?_
 obtain rfl:=so hh
 exact rq [2] ⟨a103,c104,z,hr164,z⟩
def comp_ways_j1(k163:Nat)(m167:FM Tip Unit)(l168:List Tip):Option (((FM Tip Unit)×(List Tip)×Nat)⊕(((FM Tip Unit)×(List Tip)×Nat)⊕(((List Tip)×Nat)⊕((List Tip)×Bool)))):=
 nxt (m167,l168,(k163+1))
def comp_ways_j2(m159:FM Tip Unit)(k163:Nat)(l160:List Tip)(x176:Tip):Option (((FM Tip Unit)×(List Tip)×Nat)⊕(((FM Tip Unit)×(List Tip)×Nat)⊕(((List Tip)×Nat)⊕((List Tip)×Bool)))):=
 iteO (m159.has x176) (comp_ways_j1 k163 m159 l160) (iteO (decide (4096≤((l160.length:Nat):Int))) (fin (fin (fin (some (([]:List Tip),false))))) (grd ((l160.length+[x176].length) * 24≤140737488355328) (comp_ways_j1 k163 (m159.put x176 ()) (l160++[x176]))))
def comp_ways_b3(x0:List (List Arc))(l115:List Tip)(k140:Nat)(x2:List UInt8)(k118:Nat)(m159:FM Tip Unit)(l160:List Tip)(k163:Nat):Option (((FM Tip Unit)×(List Tip)×Nat)⊕(((FM Tip Unit)×(List Tip)×Nat)⊕(((List Tip)×Nat)⊕((List Tip)×Bool)))):=
 iteO (decide (((k163:Nat):Int)<(((nth x0 (((nth l115 k140 Tip.zero).state).toNat) ([]:List Arc)).length:Nat):Int))) (iteO (!(((nth (nth x0 (((nth l115 k140 Tip.zero).state).toNat) ([]:List Arc)) k163 Arc.zero).set).has (nth x2 k118 (0:UInt8)).toNat)) (comp_ways_j1 k163 m159 l160) (grd (((nth l115 k140 Tip.zero).out).length+((nth (nth x0 (((nth l115 k140 Tip.zero).state).toNat) ([]:List Arc)) k163 Arc.zero).out).length≤9223372036854775807) (iteO ((nth (nth x0 (((nth l115 k140 Tip.zero).state).toNat) ([]:List Arc)) k163 Arc.zero).copy) (grd (k118≤(k118+1)∧(k118+1)≤x2.length) (grd (((nth l115 k140 Tip.zero).out++(nth (nth x0 (((nth l115 k140 Tip.zero).state).toNat) ([]:List Arc)) k163 Arc.zero).out).length+((x2.take (k118+1)).drop k118).length≤9223372036854775807) (comp_ways_j2 m159 k163 l160 (⟨(nth (nth x0 (((nth l115 k140 Tip.zero).state).toNat) ([]:List Arc)) k163 Arc.zero).to,(((nth l115 k140 Tip.zero).out++(nth (nth x0 (((nth l115 k140 Tip.zero).state).toNat) ([]:List Arc)) k163 Arc.zero).out)++((x2.take (k118+1)).drop k118))⟩:Tip)))) (comp_ways_j2 m159 k163 l160 (⟨(nth (nth x0 (((nth l115 k140 Tip.zero).state).toNat) ([]:List Arc)) k163 Arc.zero).to,((nth l115 k140 Tip.zero).out++(nth (nth x0 (((nth l115 k140 Tip.zero).state).toNat) ([]:List Arc)) k163 Arc.zero).out)⟩:Tip))))) (fin (nxt (m159,l160,(k140+1))))
def comp_ways_b2(l115:List Tip)(x0:List (List Arc))(x2:List UInt8)(k118:Nat)(m135:FM Tip Unit)(l137:List Tip)(k140:Nat):Option (((FM Tip Unit)×(List Tip)×Nat)⊕(((List Tip)×Nat)⊕((List Tip)×Bool))):=
 iteO (decide (((k140:Nat):Int)<((l115.length:Nat):Int))) (grd (0≤((nth l115 k140 Tip.zero).state)∧((nth l115 k140 Tip.zero).state)<(x0.length:Int)) (iter (fun q:(FM Tip Unit)×(List Tip)×Nat=>comp_ways_b3 x0 l115 k140 x2 k118 q.1 q.2.1 q.2.2) (m135,l137,0))) (fin (nxt (l137,(k118+1))))
def comp_ways_b1(x2:List UInt8)(x0:List (List Arc))(l115:List Tip)(k118:Nat):Option (((List Tip)×Nat)⊕((List Tip)×Bool)):=
 iteO (decide (((k118:Nat):Int)<((x2.length:Nat):Int))) (iter (fun q:(FM Tip Unit)×(List Tip)×Nat=>comp_ways_b2 l115 x0 x2 k118 q.1 q.2.1 q.2.2) ((FM.emp:FM Tip Unit),([]:List Tip),0)) (fin (some ((sortL cmpTip l115),true)))
def comp_ways(x0:List (List Arc))(x1:Int)(x2:List UInt8):Option ((List Tip)×Bool):=
 grd (x2.length≤281474976710656) (iter (fun q:(List Tip)×Nat=>comp_ways_b1 x2 x0 q.1 q.2) ([(⟨x1,([]:List UInt8)⟩:Tip)],0))
def comp_ways_P(σ:Store)(r:(List Tip)×Bool):Value→Store→List Res→Prop:=fun v σ' H'=>
 ∃a1 c1,v= .tuple #[.slice a1 r.1.length c1,.bool r.2]∧σ=σ'∧H'=[Res.rowS 43 2 encTip (.slice a1 r.1.length c1) r.1]
theorem comp_ways_con{x0:List (List Arc)}{x1:Int}{x2:List UInt8}(f0_0:RZ σ (pkSl 8 encArc encArc_len) (.slice a0_0 x0.length c0_0) x0){r:(List Tip)×Bool}(hh:comp_ways x0 x1 x2=some r):
  Con Tryz.prog 34 #[.slice a0_0 x0.length c0_0,.int .i64 x1,.string (bs x2)] σ [] (comp_ways_P σ r):=by
 dsimp only [comp_ways]at hh
 have f0_0b:=f0_0.big
 refine Con.mk (n:=94) Tryz.func34 z z z (fun w0=> ?_)
 have x2b:=grd_c hh
 replace hh:=grd_t hh
 refine TC.a (TL.s z z (TL.j z z (TL.en (TC.a (TL.i z z (TL.w z (buildL z pl43 ze43 z) (TL.op z (OpOk.lit (enc:=encTip) [(⟨x1,([]:List UInt8)⟩:Tip)] z underlying22 sz43 ze43 z z z encTip_len (by decide) (by decide) Tip.zero z (by decide) z (by decide) encTip_one (fun a101 c102=> ?_)))))))))
 refine TL.s z z (TL.en (TC.seq (TC.a (TL.w z (moveStr (.inl z) z) (TL.w z (lenBs z underlying9 z) (TL.i z z (TL.en (TC.block (TC.loopG (α:=((List Tip)×Nat)×((Option Addr)×Nat)) (rgs [(6,6),(13,1),(15,4),(24,67)]) (fun g=>[(8,.slice g.2.1 g.1.1.length g.2.2),(24,.int .i64 ((g.1.2:Nat):Int))]) (fun g=>[Res.rowS 43 2 encTip (.slice g.2.1 g.1.1.length g.2.2) g.1.1]) (fun g=>σ) (fun g=>iter (fun q:(List Tip)×Nat=>comp_ways_b1 x2 x0 q.1 q.2) g.1=some r) (fun g=>rounds (fun q:(List Tip)×Nat=>comp_ways_b1 x2 x0 q.1 q.2) g.1) (([(⟨x1,([]:List UInt8)⟩:Tip)],0),(a101,c102)) (Sub.pre 1 z) z (by repeat (first|exact trivial|refine ⟨z,?_⟩)) hh (fun g1 j1 hg1=> ?_))))))))))
 obtain ⟨⟨l115,k118⟩,⟨a116,c117⟩⟩:=g1
 have hh:=hg1;clear hg1
 try dsimp only
 obtain ⟨z1,hh,hR1⟩:=iter_e hh
 dsimp only [comp_ways_b1]at hh
 refine TC.isSl (i:=0) z (fun _ hb119 _=> ?_)
 refine TC.a (TL.w z (OpVal.lss z z z) (TL.en (TC.seq (TC.cD z hh (fun h120 hh=> ?_) (fun h120 hh=> ?_)))))
 ·refine TC.skip (S.n (TC.seq (TC.block (TC.a (TL.i z z (TL.i z z (TL.en (TC.a (TL.op z (makeMapB (enc:=(fun x=>Value.agg (encTip x).toArray)) (encV:=unitV) z z z (fun b121=> ?_)))))))))))
  refine TL.w z (moveMap (.inr z) z) (TL.en (TC.a (TL.s z z (TL.en (TC.seq (TC.a (TL.s z z (TL.w z (lenC z underlying22 z) (TL.i z z (TL.en (TC.block (TC.nilS 43 2 encTip (TC.loopG (α:=((FM Tip Unit)×(List Tip)×Nat)×((Option Addr)×Nat)) (rgs [(6,2),(11,1),(13,1),(15,4),(30,59)]) (fun g=>[(11,.slice g.2.1 g.1.2.1.length g.2.2),(30,.int .i64 ((g.1.2.2:Nat):Int))]) (fun g=>[Res.mapB (fun x=>Value.agg (encTip x).toArray) unitV (some b121) g.1.1,Res.rowS 43 2 encTip (.slice g.2.1 g.1.2.1.length g.2.2) g.1.2.1,Res.rowS 43 2 encTip (.slice a116 l115.length c117) l115]) (fun g=>σ) (fun g=>iter (fun q:(FM Tip Unit)×(List Tip)×Nat=>comp_ways_b2 l115 x0 x2 k118 q.1 q.2.1 q.2.2) g.1=some z1) (fun g=>rounds (fun q:(FM Tip Unit)×(List Tip)×Nat=>comp_ways_b2 l115 x0 x2 k118 q.1 q.2.1 q.2.2) g.1) (((FM.emp:FM Tip Unit),([]:List Tip),0),(none,0)) (Sub.f [2,1,2] 3) z (by repeat (first|exact trivial|refine ⟨z,?_⟩)) hh (fun g2 j2 hg2=> ?_))))))))))))))
  obtain ⟨⟨m135,l137,k140⟩,⟨a138,c139⟩⟩:=g2
  have hh:=hg2;clear hg2
  try dsimp only
  obtain ⟨z2,hh,hR2⟩:=iter_e hh
  dsimp only [comp_ways_b2]at hh
  refine TC.isSl (i:=1) z (fun _ hb142 _=> ?_)
  refine TC.isSl (i:=2) z (fun _ hb143 _=> ?_)
  refine TC.a (TL.w z (OpVal.lss z z z) (TL.en (TC.seq (TC.cD z hh (fun h144 hh=> ?_) (fun h144 hh=> ?_)))))
  ·refine TC.skip (S.n (TC.seq (TC.block (TC.a (TL.isSl (i:=2) z (fun hs145 _ _=> ?_))))))
   refine TL.w z (indexN z underlying22 sz43 z z hs145 (by omega)) (TL.w z (loadOA Tip.zero z ag43 sz43 z (q:=2) z encTip_len (by omega) (by omega)) (TL.op z (OpOk.alloc z ze43 z z (fun b146=> ?_))))
   refine TL.op z (storeAll z sz43 z z z z z z ?_)
   refine TL.en (TC.a (TL.s z z (TL.w z (fieldLoc z fo43_0 z) (TL.w z (loadLoc z ag3 z (i:=0) z z) ?_))))
   have u27:=grd_c hh
   replace hh:=grd_t hh
   refine TL.w z (OpVal.index z underlying68 sz23 z z f0_0.isSl u27.1 u27.2) ?_
   obtain ⟨p148,hk148,hg148⟩:=RZ.seg f0_0 (((nth l115 k140 Tip.zero).state).toNat) (by omega)
   replace hk148:RS _ 8 encArc (.slice p148.1 (nth x0 (((nth l115 k140 Tip.zero).state).toNat) ([]:List Arc)).length p148.2) (nth x0 (((nth l115 k140 Tip.zero).state).toNat) ([]:List Arc)):=hk148
   have hk148b:=hk148.rv.big
   refine TL.w z (OpVal.of (loadSeg0 z ag23 z hg148 z) (v':= .slice p148.1 ((nth x0 (((nth l115 k140 Tip.zero).state).toNat) ([]:List Arc)).length) p148.2) z) (TL.w z (lenC z underlying23 z) (TL.i z z (TL.en (TC.block (TC.loopG (α:=((FM Tip Unit)×(List Tip)×Nat)×((Option Addr)×Nat)) (rgs [(6,2),(11,1),(15,4),(40,48)]) (fun g=>[(11,.slice g.2.1 g.1.2.1.length g.2.2),(40,.int .i64 ((g.1.2.2:Nat):Int))]) (fun g=>[Res.mapB (fun x=>Value.agg (encTip x).toArray) unitV (some b121) g.1.1,Res.rowS 43 2 encTip (.slice g.2.1 g.1.2.1.length g.2.2) g.1.2.1,Res.cells b146 #[.int .i64 ((nth l115 k140 Tip.zero).state),.string (bs ((nth l115 k140 Tip.zero).out))] 43,Res.rowS 43 2 encTip (.slice a116 l115.length c117) l115]) (fun g=>σ) (fun g=>iter (fun q:(FM Tip Unit)×(List Tip)×Nat=>comp_ways_b3 x0 l115 k140 x2 k118 q.1 q.2.1 q.2.2) g.1=some z2) (fun g=>rounds (fun q:(FM Tip Unit)×(List Tip)×Nat=>comp_ways_b3 x0 l115 k140 x2 k118 q.1 q.2.1 q.2.2) g.1) ((m135,l137,0),(a138,c139)) (Sub.f [3,1,3,3] 4) z (by repeat (first|exact trivial|refine ⟨z,?_⟩)) hh (fun g3 j3 hg3=> ?_))))))
   obtain ⟨⟨m159,l160,k163⟩,⟨a161,c162⟩⟩:=g3
   have hh:=hg3;clear hg3
   try dsimp only
   obtain ⟨z3,hh,hR3⟩:=iter_e hh
   dsimp only [comp_ways_b3]at hh
   refine TC.isSl (i:=1) z (fun _ hb164 _=> ?_)
   refine TC.isSl (i:=3) z (fun _ hb165 _=> ?_)
   refine TC.a (TL.w z (OpVal.lss z z z) (TL.en (TC.seq (TC.cD z hh (fun h166 hh=> ?_) (fun h166 hh=> ?_)))))
   ·refine TC.skip (S.n (TC.cutG (α:=((FM Tip Unit)×(List Tip))×((Option Addr)×Nat)) (rgs [(6,2),(11,1),(15,4),(42,45)]) (fun g=>[(11,.slice g.2.1 g.1.2.length g.2.2)]) (fun g=>[Res.mapB (fun x=>Value.agg (encTip x).toArray) unitV (some b121) g.1.1,Res.rowS 43 2 encTip (.slice g.2.1 g.1.2.length g.2.2) g.1.2,Res.cells b146 #[.int .i64 ((nth l115 k140 Tip.zero).state),.string (bs ((nth l115 k140 Tip.zero).out))] 43,Res.rowS 43 2 encTip (.slice a116 l115.length c117) l115]) (fun g=>σ) (fun g=>comp_ways_j1 k163 g.1.1 g.1.2=some z3) ?_ (fun g j hg=> ?_)))
    ·skip
     refine TC.block (TC.a (TL.w z (indexN z underlying23 sz66 z z hk148.rv.sl (by omega)) (TL.w z (loadSA Arc.zero z ag66 sz66 z hk148 (by omega) (by omega)) (TL.op z (OpOk.alloc z ze66 z z (fun b171=> ?_))))))
     refine TL.op z (storeAll z sz66 z z z z z z ?_)
     refine TL.en (TC.seq (TC.seq (TC.draw [] (by kernel_rfl) (TA.a 0 z (fieldLoc z fo66_2 z) z (TA.b 1 z (loadLocA z ag55 sz55 z (i:=0) z z z) z (TA.a 2 z (moveStr (.inl z) z) z (TA.a 3 z (moveI (.inl z) z) z (TA.a 4 z (indexBs z underlying9 z z (by omega)) z (TA.ac 5 z (callP (has_con _ ((nth (nth x0 (((nth l115 k140 Tip.zero).state).toNat) ([]:List Arc)) k163 Arc.zero).set) (nth x2 k118 (0:UInt8)).toNat (BSet.isOk _) (UInt8.toNat_lt _)) z z pf62 z z z (k0 ?_)))))))))))
     refine TA.a 6 z (OpVal.not z z) z (TA.dn (S.n (TC.cB z hh (fun h173 hh=> ?_) (fun h173 hh=> ?_))))
     ·exact TC.exit (S.x (TC.exitHere (S.n (cf ((m159,l160),(a161,c162)) hh (Sub.f [4,4,4,4] 4)))))
     refine TC.skip (S.n (TC.a (TL.w z (fieldLoc z fo66_1 z) (TL.w z (loadLoc z ag3 z (i:=0) z z) (TL.w z (fieldLoc z fo43_1 z) (TL.w z (loadLoc z ag9 z (i:=3) z z) (TL.w z (fieldLoc z fo66_3 z) (TL.w z (loadLoc z ag9 z (i:=0) z z) ?_))))))))
     have u49:=grd_c hh
     replace hh:=grd_t hh
     refine TL.w z (catBs z z z u49) (TL.w z (buildL z pl43 ze43 z) (TL.op z (OpOk.alloc z ze43 z z (fun b174=> ?_))))
     refine TL.op z (storeAll z sz43 z z z z z z ?_)
     refine TL.en (TC.cutG (α:=(Tip)×(Unit)) (rgs [(59,11)]) (fun g=>[]) (fun g=>[Res.mapB (fun x=>Value.agg (encTip x).toArray) unitV (some b121) m159,Res.rowS 43 2 encTip (.slice a161 l160.length c162) l160,Res.cells b146 #[.int .i64 ((nth l115 k140 Tip.zero).state),.string (bs ((nth l115 k140 Tip.zero).out))] 43,Res.cells b174 #[.int .i64 g.1.state,.string (bs g.1.out)] 43,Res.rowS 43 2 encTip (.slice a116 l115.length c117) l115]) (fun g=>σ) (fun g=>comp_ways_j2 m159 k163 l160 g.1=some z3) ?_ (fun g j hg=> ?_))
     ·skip
      refine TC.a (TL.w z (fieldLoc z fo66_4 z) (TL.w z (loadLoc z ag4 z (i:=1) z z) (TL.en (TC.cB z hh (fun h177 hh=> ?_) (fun h177 hh=> ?_)))))
      ·have u61:=grd_c hh
       replace hh:=grd_t hh
       have u62:=grd_c hh
       replace hh:=grd_t hh
       refine TC.draw [9] (by kernel_rfl) (TA.a 0 z (fieldLoc z fo43_1 z) z (TA.b 1 z (loadLoc z ag9 z (i:=0) z z) z (TA.a 2 z (moveStr (.inl z) z) z (TA.a 3 z (moveI (.inl z) z) z (TA.a 4 z (moveI (.inl z) z) z (TA.a 5 z (OpVal.succ z z z (by omega)) z (TA.b 6 z (sliceBs (l:=x2) (i:=k118) (j:=(k118+1)) z underlying9 z z z (by omega) (by omega)) z (TA.a 7 z (catBs z z z u62) z (TA.a 8 z (fieldLoc z fo43_1 z) z (TA.last 9 (by kernel_rfl) z z z (storeStr z sz9 z z z z z ?_)))))))))))
       exact TZ.done (by kernel_rfl) (S.n (cf ((⟨(nth (nth x0 (((nth l115 k140 Tip.zero).state).toNat) ([]:List Arc)) k163 Arc.zero).to,(((nth l115 k140 Tip.zero).out++(nth (nth x0 (((nth l115 k140 Tip.zero).state).toNat) ([]:List Arc)) k163 Arc.zero).out)++((x2.take (k118+1)).drop k118))⟩:Tip),()) hh (Sub.f [5,1,5,5,5] 5)))
      exact TC.skip (S.n (cf ((⟨(nth (nth x0 (((nth l115 k140 Tip.zero).state).toNat) ([]:List Arc)) k163 Arc.zero).to,((nth l115 k140 Tip.zero).out++(nth (nth x0 (((nth l115 k140 Tip.zero).state).toNat) ([]:List Arc)) k163 Arc.zero).out)⟩:Tip),()) hh (Sub.f [5,1,5,5,5] 5)))
     skip
     obtain ⟨x176,_⟩:=g
     have hh:=hg;clear hg
     try dsimp only
     dsimp only [comp_ways_j2]at hh
     refine TC.isSl (i:=1) z (fun _ hb178 _=> ?_)
     refine TC.isSl (i:=4) z (fun _ hb179 _=> ?_)
     refine TC.seq (TC.a (TL.w z (moveMap (.inl z) z) (TL.w z (loadAll z ag43 sz43 z (i:=3) z z) (TL.w z (OpVal.of (lookB () (q:=x176) z underlying72 ze82 z (i:=0) z z kl43) (v':= .tuple #[.agg #[],.bool (m159.has x176)]) z) (TL.w z (moveT (.inl z) z) (TL.w z (OpVal.extract z z z) (TL.w z (OpVal.extract z z z) (TL.op z (OpOk.alloc z ze82 z z (fun b180=> ?_))))))))))
     refine TL.op z (storeAll z sz82 z z z z z z ?_)
     refine TL.j z z (TL.en (TC.a (TL.j z z (TL.en (TC.cB z hh (fun h182 hh=> ?_) (fun h182 hh=> ?_))))))
     ·exact TC.exit (S.x (TC.exitHere (S.n (cf ((m159,l160),(a161,c162)) hh (Sub.f [5,4,4,4] 4)))))
     refine TC.skip (S.n (TC.seq (TC.a (TL.s z z (TL.w z (lenC z underlying22 z) (TL.w z (OpVal.geq z z z) (TL.en (TC.cD z hh (fun h183 hh=> ?_) (fun h183 hh=> ?_)))))))))
     ·refine TC.a (TL.s z z (TL.j z z (TL.en (TC.nilS 43 2 encTip (TC.rt 1 (S.r (B.r (S.r (S.r ?_)))))))))
      replace hh:=fin_x hR3 hh
      refine B.r (B.r (S.r (S.r ?_)))
      replace hh:=fin_x hR2 hh
      refine B.r (S.r (B.r (S.r (S.r ?_))))
      replace hh:=fin_x hR1 hh
      refine B.r (S.r ?_)
      obtain rfl:=so hh
      exact ro [Res.rowS 43 2 encTip (.slice none ([]:List Tip).length 0) ([]:List Tip)] z (RVs.tmp z (RVs.tmp z RVs.nil)) ⟨none,0,z,z,z⟩
     refine TC.skip (S.n (TC.a (TL.w z (moveMap (.inl z) z) (TL.w z (loadAll z ag43 sz43 z (i:=4) z z) (TL.w z (buildL z pl82 ze82 z) (TL.front 1 z z (TL.op z (updB x176 () z underlying72 z z z z kl43 ?_))))))))
     refine TL.en (TC.region (TL.s z z (TL.w z (loadAll z ag43 sz43 z (i:=4) z z) (TL.op z (OpOk.lit (enc:=encTip) [x176] z underlying22 sz43 ze43 z z z encTip_len (by decide) (by decide) Tip.zero z (by decide) z (by decide) encTip_one (fun a185 c186=> ?_))))))
     refine TL.front 3 z z ?_
     have u87:=grd_c hh
     replace hh:=grd_t hh
     refine TL.op z (appendS z z underlying22 sz43 by43 ze43 z z (by decide) z z z (.inr ⟨_,0,z⟩) (by simpa using u87) (by decide) (fun a188 c189=> ?_))
     exact TL.s z z (TL.nil (B.n (S.n (cf (((m159.put x176 ()),(l160++[x176])),(a188,c189)) hh (Sub.f [6,5,2,4] 4)))))
    skip
    obtain ⟨⟨m167,l168⟩,⟨a169,c170⟩⟩:=g
    have hh:=hg;clear hg
    try dsimp only
    dsimp only [comp_ways_j1]at hh
    refine TC.isSl (i:=1) z (fun _ hb190 _=> ?_)
    refine TC.isSl (i:=3) z (fun _ hb191 _=> ?_)
    refine TC.region (TL.w z (OpVal.succ z z z (by omega)) (TL.i z z (TL.en ?_)))
    obtain ⟨hh,hlt192⟩:=nxt_x hR3 hh
    exact lf ((m167,l168,(k163+1)),(a169,c170)) hlt192 hh (Sub.f [3,3,3,3] 4)
   refine TC.exit (S.x (S.x ?_))
   replace hh:=fin_x hR3 hh
   refine TC.exitHere (B.n (S.n (TC.region (TL.w z (OpVal.succ z z z (by omega)) (TL.i z z (TL.en ?_))))))
   obtain ⟨hh,hlt193⟩:=nxt_x hR2 hh
   exact lf ((m159,l160,(k140+1)),(a161,c162)) hlt193 hh (Sub.f [3,2,2] 3)
  refine TC.exit (S.x (S.x ?_))
  replace hh:=fin_x hR2 hh
  refine TC.exitHere (S.n (TC.region (TL.s z z (TL.s z z (TL.nil (B.n (S.n (TC.region (TL.w z (OpVal.succ z z z (by omega)) (TL.i z z (TL.en ?_)))))))))))
  obtain ⟨hh,hlt194⟩:=nxt_x hR1 hh
  exact lf ((l137,(k118+1)),(a138,c139)) hlt194 hh (Sub.f [1] 1)
 refine TC.exit (S.x (S.x ?_))
 replace hh:=fin_x hR1 hh
 refine TC.exitHere (S.n (TC.a (TL.s z z ?_)))
 have hn195:(sortL cmpTip l115).length=l115.length:=List.length_mergeSort _
 refine TL.op z (OpOk.call (Hu_ (l:=l115)) z z pf68 z z z z ?_)
 rintro _ _ _ _ ⟨rfl,rfl,rfl⟩
 refine TL.en (TC.a (TL.s z z (TL.s z z (TL.j z z (TL.en ?_)))))
 rw [←hn195]
 refine TC.ret ?_
 obtain rfl:=so hh
 exact ro [Res.rowS 43 2 encTip (.slice a116 (sortL cmpTip l115).length c117) (sortL cmpTip l115)] z (RVs.tmp z (RVs.tmp z RVs.nil)) ⟨a116,c117,z,z,z⟩
end Go.Proofs.YtamgjehhjkgelaaGreatDoor
end

noncomputable section
namespace Go.E
open Go
structure TwoM where
  s:FM Tip Unit
  e:FM Tip Unit
def TwoM.zero:TwoM:=⟨FM.emp,FM.emp⟩
structure Chain where
  a:Fst
  b:Fst
  arcs:List (List Arc)
  ends:List (List Tip)
  seen:FM Arc Unit
  tips:TwoM
  whole:Fst
  over:Bool
def Chain.zero:Chain:=⟨Fst.zero,Fst.zero,[],[],FM.emp,TwoM.zero,Fst.zero,false⟩
end Go.E
end

noncomputable section
namespace Go.E
open Go
def UN(X:Ctx)(Q:QP)(c:Code):Nat→Env→Store→List Res→Prop
  |0=>fun _ _ _=>False
  |n+1=>fun e σ H=>TC X (seqQ (UN X Q c n) Q) c e σ H
theorem UN.step{X:Ctx}{Q:QP}{c:Code}{n:Nat}{e:Env}{H:List Res}(h:TC X (seqQ (UN X Q c n) Q) c e σ H):UN X Q c (n+1) e σ H:=h
theorem TC.unrolls{X:Ctx}{Q:QP}{c:Code}{e:Env}{H:List Res}(n:Nat)(h:UN X Q c n e σ H):TC X Q (.loop c) e σ H:=by
  refine TC.loop (fun k e σ H=>UN X Q c k e σ H) n h fun k e' σ' H' hk=> ?_
  cases k with
  |zero=>exact hk.elim
  |succ k=>
    refine TC.weak hk fun ex e'' σ'' H'' hq=> ?_
    cases ex<;>first|exact hq|exact ⟨k,Nat.lt_succ_self k,hq⟩
def FnV:Type:={v:Value // v.oneCell'=true}
def FnV.nil:FnV:=⟨.nilFunc,rfl⟩
def encFn(x:FnV):List Value:=[x.1]
theorem encFn_len(x:FnV):(encFn x).length=1:=rfl
theorem encFn_one: ∀x, ∀u∈encFn x,u.oneCell'=true:=fun x u hu=>by
  obtain rfl:=List.mem_singleton.1 hu
  exact x.2
end Go.E
end
