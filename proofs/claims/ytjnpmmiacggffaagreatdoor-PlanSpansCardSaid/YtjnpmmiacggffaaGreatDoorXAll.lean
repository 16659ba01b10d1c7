/- All walks. -/
import Derived.Test.YtjnpmmiacggffaaGreatDoorXFn3
