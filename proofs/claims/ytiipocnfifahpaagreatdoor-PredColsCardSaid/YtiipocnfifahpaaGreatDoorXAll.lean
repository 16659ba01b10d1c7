/- All walks. -/
import Derived.Test.YtiipocnfifahpaaGreatDoorXFn1
