import Derived.Test.YtecmpmnidlfgnaaGreatDoorSchema4v1
import Derived.Test.YtecmpmnidlfgnaaGreatDoorSchema4v2
import Derived.Test.YtecmpmnidlfgnaaGreatDoorSchema4v3
import Derived.Test.YtecmpmnidlfgnaaGreatDoorSchema4v4
import Derived.Test.YtecmpmnidlfgnaaGreatDoorSchema4v5
namespace Go.Proofs.YtecmpmnidlfgnaaGreatDoor
open Go.RowKit

theorem schemaCheck_any (v : Int) (e : Ev) (w : World) (hok : EvOk 2097152 e) : Calls Tryz.prog 26 #[.int .i64 v, evV e] w (ChkPost (evCheck v e) w) := by
  by_cases h : v < 1 ∨ 5 < v
  · exact schemaCheck_version v e w h
  · rcases (show v = 1 ∨ v = 2 ∨ v = 3 ∨ v = 4 ∨ v = 5 by omega) with rfl | rfl | rfl | rfl | rfl
    · exact schemaCheck_1 e w hok.who hok.note
    · exact schemaCheck_2 e w hok.who hok.note
    · exact schemaCheck_3 e w hok.who hok.note
    · exact schemaCheck_4 e w hok.who hok.note
    · exact schemaCheck_5 e w hok.who hok.note

end Go.Proofs.YtecmpmnidlfgnaaGreatDoor
