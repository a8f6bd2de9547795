/- A part. -/
import Derived.Test.YtonmcakdofbjiaaGreatDoorM11
import Derived.Test.YtonmcakdofbjiaaGreatDoorProg
import Derived.KernelRfl
set_option linter.all false
set_option maxRecDepth 100000
set_option maxHeartbeats 8000000
namespace Go.Proofs.YtonmcakdofbjiaaGreatDoor
open Go.Bsd
def zA:List Nat:=[118,119,136,145,146,147,148,149,150,151,152,153,154,155,162,163,164,165,166,167,174,175,176,177,178,179,180,182,183,184,185,186,187,188,189,190,191,192,193,194]
def zz:List Nat:=[5,6,7,8,9]
theorem side118:okFnB Tryz.prog zA zz true Tryz.f118=true:=by kernel_rfl
theorem side119:okFnB Tryz.prog zA zz true Tryz.f119=true:=by kernel_rfl
theorem side136:okFnB Tryz.prog zA zz true Tryz.f136=true:=by kernel_rfl
theorem side145:okFnB Tryz.prog zA zz true Tryz.f145=true:=by kernel_rfl
theorem side146:okFnB Tryz.prog zA zz true Tryz.f146=true:=by kernel_rfl
theorem side147:okFnB Tryz.prog zA zz true Tryz.f147=true:=by kernel_rfl
theorem side148:okFnB Tryz.prog zA zz true Tryz.f148=true:=by kernel_rfl
theorem side149:okFnB Tryz.prog zA zz true Tryz.f149=true:=by kernel_rfl
theorem side150:okFnB Tryz.prog zA zz true Tryz.f150=true:=by kernel_rfl
theorem side151:okFnB Tryz.prog zA zz true Tryz.f151=true:=by kernel_rfl
theorem side152:okFnB Tryz.prog zA zz true Tryz.f152=true:=by kernel_rfl
theorem side153:okFnB Tryz.prog zA zz true Tryz.f153=true:=by kernel_rfl
theorem side154:okFnB Tryz.prog zA zz true Tryz.f154=true:=by kernel_rfl
theorem side155:okFnB Tryz.prog zA zz true Tryz.f155=true:=by kernel_rfl
theorem side162:okFnB Tryz.prog zA zz true Tryz.f162=true:=by kernel_rfl
theorem side163:okFnB Tryz.prog zA zz true Tryz.f163=true:=by kernel_rfl
theorem side164:okFnB Tryz.prog zA zz true Tryz.f164=true:=by kernel_rfl
theorem side165:okFnB Tryz.prog zA zz true Tryz.f165=true:=by kernel_rfl
theorem side166:okFnB Tryz.prog zA zz true Tryz.f166=true:=by kernel_rfl
theorem side167:okFnB Tryz.prog zA zz true Tryz.f167=true:=by kernel_rfl
theorem side174:okFnB Tryz.prog zA zz true Tryz.f174=true:=by kernel_rfl
theorem side175:okFnB Tryz.prog zA zz true Tryz.f175=true:=by kernel_rfl
theorem side176:okFnB Tryz.prog zA zz true Tryz.f176=true:=by kernel_rfl
theorem side177:okFnB Tryz.prog zA zz true Tryz.f177=true:=by kernel_rfl
theorem side178:okFnB Tryz.prog zA zz true Tryz.f178=true:=by kernel_rfl
theorem side179:okFnB Tryz.prog zA zz true Tryz.f179=true:=by kernel_rfl
theorem side180:okFnB Tryz.prog zA zz true Tryz.f180=true:=by kernel_rfl
theorem side182:okFnB Tryz.prog zA zz true Tryz.f182=true:=by kernel_rfl
theorem side183:okFnB Tryz.prog zA zz true Tryz.f183=true:=by kernel_rfl
theorem side184:okFnB Tryz.prog zA zz true Tryz.f184=true:=by kernel_rfl
theorem side185:okFnB Tryz.prog zA zz true Tryz.f185=true:=by kernel_rfl
theorem side186:okFnB Tryz.prog zA zz true Tryz.f186=true:=by kernel_rfl
theorem side187:okFnB Tryz.prog zA zz true Tryz.f187=true:=by kernel_rfl
theorem side188:okFnB Tryz.prog zA zz true Tryz.f188=true:=by kernel_rfl
theorem side189:okFnB Tryz.prog zA zz true Tryz.f189=true:=by kernel_rfl
theorem side190:okFnB Tryz.prog zA zz true Tryz.f190=true:=by kernel_rfl
theorem side191:okFnB Tryz.prog zA zz true Tryz.f191=true:=by kernel_rfl
theorem side192:okFnB Tryz.prog zA zz true Tryz.f192=true:=by kernel_rfl
theorem side193:okFnB Tryz.prog zA zz true Tryz.f193=true:=by kernel_rfl
theorem side194:okFnB Tryz.prog zA zz true Tryz.f194=true:=by kernel_rfl
end Go.Proofs.YtonmcakdofbjiaaGreatDoor
