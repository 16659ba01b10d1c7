/- All walks. -/
import Derived.Test.YtjnpmmiacggffaaGreatDoorXFn2
