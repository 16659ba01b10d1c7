/- All walks. -/
import Derived.Test.YtmkgfooomdagmaaGreatDoorXFn4
