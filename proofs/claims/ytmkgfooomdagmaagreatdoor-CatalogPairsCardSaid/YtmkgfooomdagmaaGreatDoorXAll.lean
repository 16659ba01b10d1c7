/- All walks. -/
import Derived.Test.YtmkgfooomdagmaaGreatDoorXFn3
