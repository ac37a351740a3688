/- Layer 19: what all records share: the version ahead. -/
import Derived.Test.YtncbbaieoehbjaaOctRef
import Derived.Test.YtncbbaieoehbjaaOwn
namespace Go.Proofs.Ytncbbaieoehbjaa
open Go.RowKit
set_option linter.unusedVariables false
set_option linter.unusedSimpArgs false
set_option maxRecDepth 100000
set_option maxHeartbeats 2000000
def rdVer (s : ByteArray) (e : Int) : ByteArray × Int := ((rdNum s e 1).2.1, if (rdNum s e 1).1 = 1 then (rdNum s e 1).2.2 else rdFail (rdNum s e 1).2.2 4)
theorem rdVer_size (s : ByteArray) (e : Int) : (rdVer s e).1.size ≤ s.size := rdNum_size s e 1
theorem cell_setCell_ne {w : World} {p q : Addr} {u v : Value} (h : w.cell? p = some v) (hne : p.block ≠ q.block) : (w.setCell q u).cell? p = some v := by
  rw [World.cell?_setCell_other w _ _ _ (fun he => hne (by rw [he]))]
  exact h
end Go.Proofs.Ytncbbaieoehbjaa
