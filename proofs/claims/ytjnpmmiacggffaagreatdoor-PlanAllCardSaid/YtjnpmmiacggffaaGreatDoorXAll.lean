/- All walks. -/
import Derived.Test.YtjnpmmiacggffaaGreatDoorXFn4
