/- All walks. -/
import Derived.Test.YtiipocnfifahpaaGreatDoorXFn2
