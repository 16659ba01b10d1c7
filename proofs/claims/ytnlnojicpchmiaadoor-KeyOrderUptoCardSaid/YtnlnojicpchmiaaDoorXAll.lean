/- All walks. -/
import Derived.Test.YtnlnojicpchmiaaDoorXFn2
