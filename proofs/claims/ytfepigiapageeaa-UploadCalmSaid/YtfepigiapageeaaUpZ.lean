/- What UploadCalm and UploadDone share: a store made anew. Conditions: none. -/
import Derived.Test.YtfepigiapageeaaPlainUy
import Derived.Test.YtfepigiapageeaaUpS
namespace Go.Proofs.Ytfepigiapageeaa
set_option maxRecDepth 100000
open Go.RowKit
set_option linter.unusedVariables false
theorem sto_new (w : World) : StoIs (w.alloc (.cells #[.slice none 0 0, .slice none 0 0, .int .i64 0, .int .i64 0, .int .i64 0] 33)) (fun k => k = w.heap.size) w.heap.size ⟨[], [], 0, 0, 0⟩ :=
  ⟨none, 0, [], .slice none 0 0, [], rfl, Blk.new _ _ _, Rd.none_ _ _ _ _, rfl, World.ownsRow_nil _ _ _ _, rfl, (fun k hk => by simp [Value.ownBlock] at hk), Nat.le_refl _, (fun k hk => by rw [hk]; simp)⟩
end Go.Proofs.Ytfepigiapageeaa
