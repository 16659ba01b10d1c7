/- All walks. -/
import Derived.Test.YtjegjjlojnpnoaaGreatDoorXFn2
