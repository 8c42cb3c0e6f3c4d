/- Part 11 of the proof: its lemmas. No condition. -/
import Derived.Test.YtiboombocnfngaaGreatDoorZ1
set_option maxRecDepth 10000
set_option maxHeartbeats 80000000
set_option linter.all false
open Go Go.Proofs Go.RowKit
namespace Qv
def fI (c:dH):dH:=if c.kind=1 then{c with type:=0}else if c.kind=2 then{c with file:=aM,over:=[],parent:=aM,name:=[]}else if c.kind=3 then{c with file:=aM,over:=[],mode:=0}else if c.kind=4 then{c with file:=aM,over:=[],data:=[]}else if c.kind=5 then{c with file:=aM,eH:=aM,eY:=aM,lines:=[]}else if c.kind=6 then{c with file:=aM,over:=[],eH:=aM,eY:=aM}else{c with over:=[]}
theorem Ez (c:dH)(hk:c.kind=1):fI c={c with type:=0}:=by unfold fI;rw[af hk]
theorem SA (c:dH)(hk:c.kind=2):fI c={c with file:=aM,over:=[],parent:=aM,name:=[]}:=by unfold fI;rw[aa (show¬c.kind=1 by omega)];rw[af hk]
theorem SB (c:dH)(hk:c.kind=3):fI c={c with file:=aM,over:=[],mode:=0}:=by unfold fI;rw[aa (show¬c.kind=1 by omega)];rw[aa (show¬c.kind=2 by omega)];rw[af hk]
theorem Nh (c:dH)(hk:c.kind=4):fI c={c with file:=aM,over:=[],data:=[]}:=by unfold fI;rw[aa (show¬c.kind=1 by omega)];rw[aa (show¬c.kind=2 by omega)];rw[aa (show¬c.kind=3 by omega)];rw[af hk]
theorem SC (c:dH)(hk:c.kind=5):fI c={c with file:=aM,eH:=aM,eY:=aM,lines:=[]}:=by unfold fI;rw[aa (show¬c.kind=1 by omega)];rw[aa (show¬c.kind=2 by omega)];rw[aa (show¬c.kind=3 by omega)];rw[aa (show¬c.kind=4 by omega)];rw[af hk]
theorem SD (c:dH)(hk:c.kind=6):fI c={c with file:=aM,over:=[],eH:=aM,eY:=aM}:=by unfold fI;rw[aa (show¬c.kind=1 by omega)];rw[aa (show¬c.kind=2 by omega)];rw[aa (show¬c.kind=3 by omega)];rw[aa (show¬c.kind=4 by omega)];rw[aa (show¬c.kind=5 by omega)];rw[af hk]
theorem It (c:dH)(hk:c.kind=7):fI c={c with over:=[]}:=by unfold fI;rw[aa (show¬c.kind=1 by omega)];rw[aa (show¬c.kind=2 by omega)];rw[aa (show¬c.kind=3 by omega)];rw[aa (show¬c.kind=4 by omega)];rw[aa (show¬c.kind=5 by omega)];rw[aa (show¬c.kind=6 by omega)]
def bN (c:dH):Bool:=decide (c.file=aM)&&(decide (c.type=0)&&(decide (c.parent=aM)&&(decide (c.name=[])&&(decide (c.mode=0)&&(decide (c.data=[])&&(decide (c.eH=aM)&&(decide (c.eY=aM)&&(decide (c.lines=[])&&decide (c.over=[])))))))))
end Qv
